/- Merged: Dk5, RfH. -/
import Derived.Test.YtflajlnknimjaaaMp13
/- DiskLoaded: the walk of the law. -/
namespace Go.Proofs.Ytflajlnknimjaaa.Dk
open Go.RowKit Go.Maps Go.Proofs.YtflajlnknimjaaaW.PrintWords Go.Proofs.YtflajlnknimjaaaW.PrintMore Go.Proofs.YtflajlnknimjaaaW.PrintLast Go.Proofs.Ytflajlnknimjaaa.Syn Go.Proofs.Ytflajlnknimjaaa.PDiskLoads

def loadedT : Bool × List (List Nat × List Nat) := (true, [([], []), ([], []), ([], []), ([1, 2], [1, 2]), ([3], [3]), ([0, 4], [0, 4]), ([], []), ([], []), ([], []), ([7, 8], [7, 8]), ([9], [9]), ([6, 10, 5], [6, 10]), ([5, 11], [5, 11])])
def loadedTB : List Nat := [0, 0, 0, 6, 14, 31, 0, 0, 0, 384, 896, 2047, 4095]
theorem loadedT_tab : rtab .any (opsOf Try.f7 15) = loadedT := by kernel_rfl
theorem loadedT_bits : waitsOk loadedT.2 loadedTB = true := by kernel_rfl

/-- A disk behind operations. -/
def plays (s : St) (l : List SO) : St := l.foldl (fun d x => (told d x).2) s
theorem plays_take {s : St} {l : List SO} {k : Nat} (h : k < l.length) : (told (plays s (l.take k)) l[k]).2 = plays s (l.take (k + 1)) := by
  unfold plays
  rw [List.take_succ_eq_append_getElem h, List.foldl_append]
  rfl
section
variable {B i : Nat} {w0 w : World} {D : List Thing} {d : St}
theorem m_load2 (hM : Many B w0 w D) {A : Option Addr} {n c : Nat} (hi : D[i]? = some (FILES (.slice A n c) (filesOf d))) (ok : d.Ok) :
    Calls Try.prog 29 #[.slice A n c] w fun e w' => ∃ q, e = .returned (.tuple #[ptr q, .int .i64 0]) ∧ Many B w0 w' (D ++ [DISK q (ofFiles d.fs)]) := by
  obtain ⟨A1, c1, e1, _, _⟩ := hM.files hi
  cases e1
  have hcnt := ok.cnt
  have hlen : (filesOf d).length = d.fs.length := by simp [filesOf]
  refine (m_load hM hi (by omega) (files_fits ok).1 (by have := (files_fits ok).2; omega)).mono ?_
  intro e w' h
  unfold LoadPost at h
  rw [load_files ok] at h
  exact h
end

set_option maxHeartbeats 4000000 in
set_option maxRecDepth 100000 in
theorem loaded_calls {w : World} {A A' : Option Addr} {c c' : Nat} {l m : List SO} (hl : Ops w A l) (hlc : l.length ≤ c) (hm : Ops w A' m) (hmc : m.length ≤ c') :
    Calls Try.prog 7 #[.slice A l.length c, .slice A' m.length c'] w fun e w' => e = .returned (.bool true) ∧ Below w.heap.size w w' := by
  have H0 := Lib.hid (Many.start w)
  have HL := Lib.hid hl
  have HM := Lib.hid hm
  have HLC := Lib.hid hlc
  have HMC := Lib.hid hmc
  have hml := hm.len
  clear hl hm hlc hmc
  go_enter Try.func7, Try.ntmps7
  go_upto_region 2 with (go_at_call 9; refine (first_calls _).mono ?_; rintro e w1 ⟨rfl, h1⟩; have H1 := Lib.hid (H0.out.read h1); clear h1)
  go_upto_region 5 with (first
    | (go_at_call 19; refine (m_few (by exact H2.out) (by exact HM.out) (by exact HMC.out)).mono ?_; rintro e w3 ⟨b3, rfl, h3⟩; have H3 := Lib.hid h3; clear h3)
    | (go_at_call 19; refine (m_few (by exact H1.out) (by exact HL.out) (by exact HLC.out)).mono ?_; rintro e w2 ⟨b2, rfl, h2⟩; have H2 := Lib.hid h2; clear h2))
  all_goals (first | (go_ret; first | exact ⟨rfl, H3.out.below⟩ | exact ⟨rfl, H2.out.below⟩) | skip)
  go_upto_region 6 with (go_at_call 20; with_reducible refine (m_made (by exact H3.out) (by exact HL.out)).mono ?_; rintro e w4 ⟨p, rfl, h⟩; have H4 := Lib.hid h; clear h)
  obtain ⟨d, hd⟩ : ∃ d, d = made l := ⟨_, rfl⟩
  rw [← hd] at H4
  clear hd
  have OK := Lib.hid (H4.out.ok (i := 0) (by with_unfolding_all rfl))
  go_upto_region 7 with (first
    | (go_at_call 21; with_reducible refine (m_files2 (p := p) (i := 0) (by exact H4.out) (by with_unfolding_all rfl)).mono ?_; rintro e w5 ⟨A1, c1, rfl, h⟩; have H5 := Lib.hid h; clear h)
    | (go_at_call 29; with_reducible refine (m_load2 (d := d) (i := 1) (by exact H5.out) (by with_unfolding_all rfl) (by exact OK.out)).mono ?_; rintro e w6 ⟨q, rfl, h⟩; have H6 := Lib.hid h; clear h))
  go_upto_region 9 with (go_at_call 11; refine (num_calls _ _).mono ?_; rintro e w7 ⟨rfl, rfl⟩)
  go_upto_region 10 with (first
    | (go_at_call 21; with_reducible refine (m_files2 (p := q) (i := 2) (by exact H6.out) (by with_unfolding_all rfl)).mono ?_; rw [show filesOf (ofFiles d.fs) = filesOf d from rfl]; rintro e w8 ⟨A2, c2, rfl, h⟩; have H7 := Lib.hid h; clear h)
    | (go_at_call 21; with_reducible refine (m_files2 (p := p) (i := 0) (by exact H7.out) (by with_unfolding_all rfl)).mono ?_; rintro e w9 ⟨A3, c3, rfl, h⟩; have H8 := Lib.hid h; clear h)
    | (go_at_call 25; with_reducible refine (m_same1 (i := 3) (j := 4) (by exact H8.out) (by with_unfolding_all rfl) (by with_unfolding_all rfl) (by exact files_len OK.out)).mono ?_; rintro e w10 ⟨rfl, h⟩; have H9 := Lib.hid h; clear h))
  go_upto_region 11 with (go_at_call 22; with_reducible refine (m_crash (p := q) (i := 2) (by exact H9.out) (by with_unfolding_all rfl) 5).mono ?_; rw [crash_loaded OK.out]; rintro e w11 ⟨rfl, h⟩; have HA := Lib.hid h; clear h)
  go_upto_region 12 with (go_at_call 22; with_reducible refine (m_crash (p := p) (i := 0) (by exact HA.out) (by with_unfolding_all rfl) 0).mono ?_; rintro e w12 ⟨rfl, h⟩; have HB := Lib.hid h; clear h)
  obtain ⟨s, hs⟩ : ∃ s, s = d.crash 0 := ⟨_, rfl⟩
  obtain ⟨T1, T3, T4, hC⟩ : ∃ T1 T3 T4, Many w.heap.size w w12 [DISK p s, T1, DISK q s, T3, T4] := ⟨_, _, _, by rw [hs]; exact HB.out⟩
  have HC := Lib.hid hC
  clear hC hs HB HA H9 H8 H7 H6 H5 H4
  go_wp2
  go_loopw [11] (fun v11 wr => ∃ k : Nat, k ≤ m.length ∧ v11 = .int .i64 k ∧ Hid (Many w.heap.size w wr [DISK p (plays s (m.take k)), T1, DISK q (plays s (m.take k)), T3, T4])) (fun v11 _ => m.length - (intOf v11).toNat)
  case atStart => exact ⟨0, Nat.zero_le _, rfl, HC⟩
  case round =>
    obtain ⟨k, hk, rfl, HR⟩ := hrel
    by_cases hlt : k < m.length
    · obtain ⟨ad, A4, c4, rfl, hcell, hl4, hC4⟩ := HM.out.at k hlt
      have hfit := HM.out.fits _ (List.getElem_mem hlt)
      have hplay := plays_take (s := s) hlt
      obtain ⟨x, hx⟩ : ∃ x, x = m[k] := ⟨_, rfl⟩
      rw [← hx] at hcell hl4 hC4 hfit hplay
      obtain ⟨t, ht⟩ : ∃ t, told (plays s (m.take k)) x = t := ⟨_, rfl⟩
      rw [ht] at hplay
      have HT := Lib.hid ht
      have HP := Lib.hid hplay
      have HX := Lib.hid hfit
      have HL4 := Lib.hid hl4
      have HC4 := Lib.hid hC4
      have HCell := Lib.hid hcell
      clear hx ht hplay hfit hl4 hC4 hcell
      go_upto_region 15 with fail
      have HD := Lib.hid (HR.out.read (below_drew (Below.refl _ _)))
      have hcd := HCell.out _ HD.out.below
      clear HR
      refine start_ (n := 13) (S := fun w' => w'.cell? (ad.add (k * 5)) = some (.int .i64 x.f0) ∧ w'.cell? ⟨(ad.add (k * 5)).block, (ad.add (k * 5)).off + 1, none⟩ = some (.int .i64 x.f1) ∧ w'.cell? ⟨(ad.add (k * 5)).block, (ad.add (k * 5)).off + 2, none⟩ = some (.string x.f2) ∧ w'.cell? ⟨(ad.add (k * 5)).block, (ad.add (k * 5)).off + 3, none⟩ = some (.string x.f3) ∧ w'.cell? ⟨(ad.add (k * 5)).block, (ad.add (k * 5)).off + 4, none⟩ = some (.slice A4 x.f4.length c4)) (ds := []) #[false, false, false, false, false, false, false, false, false, false, false, false, false] (by kernel_rfl) rfl rfl hcd (fun hHeld => ?_)
      refine with_tabW loadedT_tab loadedT_bits (fun HT_ HW_ => ?_)
      generalize wr.drew = w6 at HD hHeld ⊢
      clear hcd
      refine pure_ (i := 0) (N := (some 57)) (v := ?_) (a' := ?_) #[true, false, false, false, false, false, false, false, false, false, false, false, false] rfl rfl (any_of HT_.out (by kernel_rfl)) (fun _ _ _ h => h) (Or.inl ⟨by rfl, ?_⟩) ?_ ?_
      rotate_left
      · intro w'
        go_simp
        with_reducible rfl
      rotate_left
      · simp only [Act.put, List.setIfInBounds_toArray, List.set_cons_zero, List.set_cons_succ, i64_w, i32_w]
        rfl
      refine pure_ (i := 1) (N := (some 58)) (v := ?_) (a' := ?_) #[true, true, false, false, false, false, false, false, false, false, false, false, false] rfl rfl (any_of HT_.out (by kernel_rfl)) (fun _ _ _ h => h) (Or.inl ⟨by rfl, ?_⟩) ?_ ?_
      rotate_left
      · intro w'
        go_simp
        with_reducible rfl
      rotate_left
      · simp only [Act.put, List.setIfInBounds_toArray, List.set_cons_zero, List.set_cons_succ, i64_w, i32_w]
        rfl
      refine pure_ (i := 2) (N := (some 59)) (v := ?_) (a' := ?_) #[true, true, true, false, false, false, false, false, false, false, false, false, false] rfl rfl (any_of HT_.out (by kernel_rfl)) (fun _ _ _ h => h) (Or.inl ⟨by rfl, ?_⟩) ?_ ?_
      rotate_left
      · intro w'
        go_simp
        with_reducible rfl
      rotate_left
      · simp only [Act.put, List.setIfInBounds_toArray, List.set_cons_zero, List.set_cons_succ, i64_w, i32_w]
        rfl
      refine pure_ (i := 3) (N := (some 60)) (v := ?_) (a' := ?_) #[true, true, true, true, false, false, false, false, false, false, false, false, false] rfl rfl (any_of HT_.out (by kernel_rfl)) (fun _ _ _ h => h) (Or.inl ⟨by rfl, ?_⟩) ?_ ?_
      rotate_left
      · intro w'
        go_simp
        with_reducible rfl
      rotate_left
      · simp only [Act.put, List.setIfInBounds_toArray, List.set_cons_zero, List.set_cons_succ, i64_w, i32_w]
        rfl
      refine pure_ (i := 6) (N := (some 63)) (v := ?_) (a' := ?_) #[true, true, true, true, false, false, true, false, false, false, false, false, false] rfl rfl (any_of HT_.out (by kernel_rfl)) (fun _ _ _ h => h) (Or.inl ⟨by rfl, ?_⟩) ?_ ?_
      rotate_left
      · intro w'
        go_simp
        with_reducible rfl
      rotate_left
      · simp only [Act.put, List.setIfInBounds_toArray, List.set_cons_zero, List.set_cons_succ, i64_w, i32_w]
        rfl
      refine pure_ (i := 7) (N := (some 64)) (v := ?_) (a' := ?_) #[true, true, true, true, false, false, true, true, false, false, false, false, false] rfl rfl (any_of HT_.out (by kernel_rfl)) (fun _ _ _ h => h) (Or.inl ⟨by rfl, ?_⟩) ?_ ?_
      rotate_left
      · intro w'
        go_simp
        with_reducible rfl
      rotate_left
      · simp only [Act.put, List.setIfInBounds_toArray, List.set_cons_zero, List.set_cons_succ, i64_w, i32_w]
        rfl
      refine pure_ (i := 8) (N := (some 65)) (v := ?_) (a' := ?_) #[true, true, true, true, false, false, true, true, true, false, false, false, false] rfl rfl (any_of HT_.out (by kernel_rfl)) (fun _ _ _ h => h) (Or.inl ⟨by rfl, ?_⟩) ?_ ?_
      rotate_left
      · intro w'
        go_simp
        with_reducible rfl
      rotate_left
      · simp only [Act.put, List.setIfInBounds_toArray, List.set_cons_zero, List.set_cons_succ, i64_w, i32_w]
        rfl
      refine pure_ (i := 9) (N := (some 66)) (v := ?_) (a' := ?_) #[true, true, true, true, false, false, true, true, true, true, false, false, false] rfl rfl (any_of HT_.out (by kernel_rfl)) (fun _ _ _ h => h) (Or.inl ⟨by rfl, ?_⟩) ?_ ?_
      rotate_left
      · intro w'
        go_simp
        with_reducible rfl
      rotate_left
      · simp only [Act.put, List.setIfInBounds_toArray, List.set_cons_zero, List.set_cons_succ, i64_w, i32_w]
        rfl
      refine take_ (i := 4) (N := (some 61)) (v := ?_) (a' := ?_) #[true, true, true, true, true, false, true, true, true, true, false, false, false] rfl rfl (take_ofW HT_.out HW_.out (by kernel_rfl)) (fun _ _ _ h => h) (Or.inl ⟨by rfl, ?_⟩) hHeld ?_ ?_
      rotate_left
      · rintro w' ⟨s0, s1, s2, s3, s4⟩
        go_simp
        with_reducible rfl
      rotate_left
      · simp only [Act.put, List.setIfInBounds_toArray, List.set_cons_zero, List.set_cons_succ, i64_w, i32_w]
        rfl
      refine take_ (i := 10) (N := (some 67)) (v := ?_) (a' := ?_) #[true, true, true, true, true, false, true, true, true, true, true, false, false] rfl rfl (take_ofW HT_.out HW_.out (by kernel_rfl)) (fun _ _ _ h => h) (Or.inl ⟨by rfl, ?_⟩) hHeld ?_ ?_
      rotate_left
      · rintro w' ⟨s0, s1, s2, s3, s4⟩
        go_simp
        with_reducible rfl
      rotate_left
      · simp only [Act.put, List.setIfInBounds_toArray, List.set_cons_zero, List.set_cons_succ, i64_w, i32_w]
        rfl
      refine one_ (i := 5) (N := (some 62)) #[true, true, true, true, true, true, true, true, true, true, true, false, false] rfl rfl (one_of HT_.out (by kernel_rfl)) (by decide) (fun K hK => ?_)
      refine goes_ Try.func26 (by kernel_rfl) rfl #[ptr q, .agg #[.int .i64 x.f0, .int .i64 x.f1, .string x.f2, .string x.f3, .slice A4 x.f4.length c4]] (by rfl) rfl rfl (by (try simp only [List.map_toArray, List.map_cons, List.map_nil]); rfl) ?_
      with_reducible refine (m_told (i := 2) (by exact HD.out) (by with_unfolding_all rfl) x (by exact HX.out) A4 c4 (by exact HL4.out) (by exact HC4.out)).mono ?_
      rw [HT.out]
      rintro e w7 ⟨rfl, h7⟩
      refine ⟨_, rfl, ?_⟩
      have H7 := Lib.hid h7
      have g7 := HCell.out w7 h7.below
      clear h7
      refine hK.out _ _ g7 (fun hHeld => ?_)
      clear hK K
      refine norm_ (a' := ?_) ?_ ?_
      rotate_left
      · show Act.put _ (some 62) _ = _
        simp only [Act.put, List.setIfInBounds_toArray, List.set_cons_zero, List.set_cons_succ, i64_w, i32_w]
        rfl
      refine one_ (i := 11) (N := (some 68)) #[true, true, true, true, true, true, true, true, true, true, true, true, false] rfl rfl (one_of HT_.out (by kernel_rfl)) (by decide) (fun K hK => ?_)
      refine goes_ Try.func26 (by kernel_rfl) rfl #[ptr p, .agg #[.int .i64 x.f0, .int .i64 x.f1, .string x.f2, .string x.f3, .slice A4 x.f4.length c4]] (by rfl) rfl rfl (by (try simp only [List.map_toArray, List.map_cons, List.map_nil]); rfl) ?_
      with_reducible refine (m_told (i := 0) (by exact H7.out) (by with_unfolding_all rfl) x (by exact HX.out) A4 c4 (by exact HL4.out) (by exact HC4.out)).mono ?_
      rw [HT.out]
      rintro e w8 ⟨rfl, h8⟩
      refine ⟨_, rfl, ?_⟩
      have H8 := Lib.hid h8
      have g8 := HCell.out w8 h8.below
      clear h8
      refine hK.out _ _ g8 (fun hHeld => ?_)
      clear hK K
      refine norm_ (a' := ?_) ?_ ?_
      rotate_left
      · show Act.put _ (some 68) _ = _
        simp only [Act.put, List.setIfInBounds_toArray, List.set_cons_zero, List.set_cons_succ, i64_w, i32_w]
        rfl
      refine pure_ (i := 12) (N := (some 69)) (v := ?_) (a' := ?_) #[true, true, true, true, true, true, true, true, true, true, true, true, true] rfl rfl (any_of HT_.out (by kernel_rfl)) (fun _ _ _ h => h) (Or.inl ⟨by rfl, ?_⟩) ?_ ?_
      rotate_left
      · intro w'
        go_simp
        with_reducible rfl
      rotate_left
      · simp only [Act.put, List.setIfInBounds_toArray, List.set_cons_zero, List.set_cons_succ, i64_w, i32_w]
        rfl
      refine done_ (done_of HT_.out (by kernel_rfl)) ?_
      clear g7 g8 hHeld
      have hk2 : wrap64 ((k : Int) + 1) = (k : Int) + 1 := by unfold wrap64; omega
      go_wp2
      go_roundw
      case rel =>
        refine ⟨k + 1, by omega, by first | rfl | (rw [hk2]; rfl), ?_⟩
        have h9 := H8.out
        simp only [List.set_cons_zero, List.set_cons_succ, HP.out] at h9
        exact Lib.hid h9
      case measure =>
        first
          | (show m.length - ((k : Int) + 1).toNat < m.length - (k : Int).toNat; omega)
          | (show m.length - (intOf (.int .i64 (wrap64 ((k : Int) + 1)))).toNat < m.length - (intOf (.int .i64 (k : Int))).toNat; rw [hk2]; show m.length - ((k : Int) + 1).toNat < m.length - (k : Int).toNat; omega)
    · have hkn : k = m.length := by omega
      subst hkn
      have HE := HR.out
      rw [List.take_length] at HE
      generalize plays s m = s2 at HE
      have HF := Lib.hid HE
      clear HE HR
      have HOK := Lib.hid (files_len (HF.out.ok (i := 0) (by with_unfolding_all rfl)))
      go_upto_region 18 with (first
        | (go_at_call 21; with_reducible refine (m_files2 (p := q) (i := 2) (by exact HF.out) (by with_unfolding_all rfl)).mono ?_; rintro e wa ⟨A6, c6, rfl, h⟩; have HG := Lib.hid h; clear h)
        | (go_at_call 21; with_reducible refine (m_files2 (p := p) (i := 0) (by exact HG.out) (by with_unfolding_all rfl)).mono ?_; rintro e wb ⟨A7, c7, rfl, h⟩; have HH := Lib.hid h; clear h)
        | (go_at_call 25; with_reducible refine (m_same1 (i := 5) (j := 6) (by exact HH.out) (by with_unfolding_all rfl) (by with_unfolding_all rfl) (by exact HOK.out)).mono ?_; rintro e wc ⟨rfl, h⟩; have HI := Lib.hid h; clear h))
      go_wp2_with (first
        | (go_at_call 23; with_reducible refine (m_down (p := q) (i := 2) (by exact HI.out) (by with_unfolding_all rfl)).mono ?_; rintro e wd ⟨rfl, h⟩; have HJ := Lib.hid h; clear h)
        | (go_at_call 23; with_reducible refine (m_down (p := p) (i := 0) (by exact HJ.out) (by with_unfolding_all rfl)).mono ?_; rintro e we ⟨rfl, h⟩; have HK := Lib.hid h; clear h)
        | (go_at_call 16; with_reducible refine (m_size (p := q) (i := 2) (by exact HK.out) (by with_unfolding_all rfl)).mono ?_; rintro e wf ⟨rfl, h⟩; have HLL := Lib.hid h; clear h)
        | (go_at_call 16; with_reducible refine (m_size (p := p) (i := 0) (by exact HLL.out) (by with_unfolding_all rfl)).mono ?_; rintro e wg ⟨rfl, h⟩; have HMM := Lib.hid h; clear h))
      go_ret
      exact ⟨by simp, HMM.out.below⟩
end Go.Proofs.Ytflajlnknimjaaa.Dk

/- DiskPlays: the walk of the law. -/
namespace Go.Proofs.Ytflajlnknimjaaa.Dk
open Go.RowKit Go.Maps Go.Proofs.YtflajlnknimjaaaW.PrintWords Go.Proofs.YtflajlnknimjaaaW.PrintMore Go.Proofs.YtflajlnknimjaaaW.PrintLast Go.Proofs.Ytflajlnknimjaaa.Syn Go.Proofs.Ytflajlnknimjaaa.PDiskLoads
set_option linter.unusedVariables false
set_option linter.unusedSimpArgs false
set_option maxHeartbeats 4000000 in
set_option maxRecDepth 100000 in
theorem plays_calls {w : World} {A : Option Addr} {c : Nat} {l : List SO} (hl : Ops w A l) (hlc : l.length ≤ c) :
    Calls Try.prog 6 #[.slice A l.length c] w fun e w' => e = .returned (.bool true) ∧ Below w.heap.size w w' := by
  have H0 := Lib.hid (Many.start w)
  have HL := Lib.hid hl
  have HLC := Lib.hid hlc
  have hll := hl.len
  clear hl hlc
  go_enter Try.func6, Try.ntmps6
  go_upto_region 2 with (go_at_call 9; refine (first_calls _).mono ?_; rintro e w1 ⟨rfl, h1⟩; have H1 := Lib.hid (H0.out.read h1); clear h1)
  go_upto_region 5 with (go_at_call 19; refine (m_few (by exact H1.out) (by exact HL.out) (by exact HLC.out)).mono ?_; rintro e w2 ⟨b2, rfl, h2⟩; have H2 := Lib.hid h2; clear h2)
  all_goals (first | (go_ret; exact ⟨rfl, H2.out.below⟩) | skip)
  go_upto_region 6 with (go_at_call 10; refine (m_new (by exact H2.out)).mono ?_; rintro e w3 ⟨p, rfl, h⟩; have H3 := Lib.hid h; clear h)
  have H4 := Lib.hid (zero_ref H3.out)
  obtain ⟨q, hq⟩ : ∃ q, q = w3.heap.size := ⟨_, rfl⟩
  go_upto_region 8 with fail
  rw [← hq] at H4 ⊢
  have HS : Hid (Many w.heap.size w (w3.alloc (.cells #[.slice none 0 0, .int .i64 0, .bool false, .string ⟨#[]⟩] 29)) [DISK p (plays St.new (l.take 0)), REF q (plays St.new (l.take 0))]) := Lib.hid H4.out
  clear H4 H3 hq
  generalize World.alloc _ _ = w4 at HS ⊢
  go_loopw [7, 8] (fun v7 v8 wr => ∃ k : Nat, k ≤ l.length ∧ v7 = .int .i64 k ∧ Hid (Many w.heap.size w wr [DISK p (plays St.new (l.take k)), REF q (plays St.new (l.take k))])) (fun v7 _ _ => l.length - (intOf v7).toNat)
  case atStart => exact ⟨0, Nat.zero_le _, rfl, HS⟩
  case round =>
    obtain ⟨k, hk, rfl, HR⟩ := hrel
    by_cases hlt : k < l.length
    · obtain ⟨ad, A4, c4, rfl, hcell, hl4, hC4⟩ := HL.out.at k hlt
      obtain ⟨x0, x1, x2, x3, x4⟩ := hcell wr HR.out.below
      have hfit := HL.out.fits _ (List.getElem_mem hlt)
      have hplay := plays_take (s := St.new) hlt
      obtain ⟨x, hx⟩ : ∃ x, x = l[k] := ⟨_, rfl⟩
      rw [← hx] at x0 x1 x2 x3 x4 hl4 hC4 hfit hplay
      have HP := Lib.hid hplay
      have HX := Lib.hid hfit
      have HL4 := Lib.hid hl4
      have HC4 := Lib.hid hC4
      have hk2 : wrap64 ((k : Int) + 1) = (k : Int) + 1 := by unfold wrap64; omega
      clear hcell hx hplay hfit hl4 hC4
      go_upto_region 11 with (go_at_call 27; go_must (refine (does_calls (by exact HR.out) x (by exact HX.out) A4 c4 (by exact HL4.out) (by exact HC4.out)).mono ?_; rintro e w5 ⟨rfl, h5⟩; have H5 := Lib.hid h5; clear h5))
      clear x0 x1 x2 x3 x4
      go_wp2_with (go_at_call 28; go_must (refine (same4_calls (by exact H5.out)).mono ?_; rintro e w6 ⟨rfl, h6⟩; have H6 := Lib.hid h6; clear h6))
      go_roundw
      case rel =>
        refine ⟨k + 1, by omega, by first | rfl | (rw [hk2]; rfl), ?_⟩
        have h9 := H6.out
        rw [HP.out] at h9
        exact Lib.hid h9
      case measure =>
        first
          | (show l.length - ((k : Int) + 1).toNat < l.length - (k : Int).toNat; omega)
          | (show l.length - (intOf (.int .i64 (wrap64 ((k : Int) + 1)))).toNat < l.length - (intOf (.int .i64 (k : Int))).toNat; rw [hk2]; show l.length - ((k : Int) + 1).toNat < l.length - (k : Int).toNat; omega)
    · have hkn : k = l.length := by omega
      subst hkn
      go_wp2
      go_ret
      exact ⟨rfl, HR.out.below⟩
end Go.Proofs.Ytflajlnknimjaaa.Dk
