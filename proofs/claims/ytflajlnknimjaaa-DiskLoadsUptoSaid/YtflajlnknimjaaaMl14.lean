/- Merged: RfI, Dk5P, Dk5, RfH. -/
import Derived.Test.YtflajlnknimjaaaMl13
set_option linter.unusedVariables false
set_option linter.unusedSimpArgs false
/- The reference's Load. -/
namespace Go.Proofs.Ytflajlnknimjaaa.Dk
open Go.RowKit Go.Maps Go.Proofs.YtflajlnknimjaaaW.PrintWords Go.Proofs.YtflajlnknimjaaaW.PrintMore Go.Proofs.YtflajlnknimjaaaW.PrintLast Go.Proofs.Ytflajlnknimjaaa.Syn Go.Proofs.Ytflajlnknimjaaa.PDiskLoads
set_option linter.unusedVariables false
set_option linter.unusedSimpArgs false

def rloadT : Bool × List (List Nat × List Nat) := (true, [([], []), ([], []), ([], []), ([1, 2], [1, 2]), ([3], [3]), ([4], [4]), ([], []), ([], []), ([6, 7], [6, 7]), ([8], [8]), ([9], [9]), ([10], [10]), ([], []), ([], []), ([12, 13], [12, 13]), ([14], [14]), ([15], [15]), ([5, 11, 16], [5, 11, 16]), ([0, 17, 11], [0, 17])])
def rloadTB : List Nat := [0, 0, 0, 6, 14, 30, 0, 0, 192, 448, 960, 1984, 0, 0, 12288, 28672, 61440, 131070, 262143]
theorem rloadT_tab : rtab .any (opsOf Try.f31 12) = rloadT := by kernel_rfl
theorem rloadT_bits : waitsOk rloadT.2 rloadTB = true := by kernel_rfl

/-- The reference's disk, that need not be whole yet. -/
def RRAW (p : Nat) (d : St) : Thing where
  P := fun w F => RefAt w F p d
  stay := fun _ hs he ⟨v, h1⟩ => ⟨v, h1.stay hs he⟩
section
variable {B i : Nat} {w0 w : World} {D : List Thing} {t : Thing} {p q : Nat} {d : St}
/-- What the reference's Load leaves. -/
def RLoadPost (B : Nat) (w0 : World) (D : List Thing) (l : List SF) (e : Ending) (w' : World) : Prop :=
  match load l with
  | (r, none) => e = .returned (.tuple #[.pointer none, .int .i64 r]) ∧ Many B w0 w' D
  | (r, some d) => ∃ p, e = .returned (.tuple #[ptr p, .int .i64 r]) ∧ Many B w0 w' (REF p d :: D)
theorem RLoadPost.no {l : List SF} {r : Int} {w' : World} (h : load l = (r, none)) (hM : Many B w0 w' D) : RLoadPost B w0 D l (.returned (.tuple #[.pointer none, .int .i64 r])) w' := by
  unfold RLoadPost
  rw [h]
  exact ⟨rfl, hM⟩
theorem RLoadPost.yes {l : List SF} {w' : World} (h : load l = (0, some d)) (hM : Many B w0 w' (REF p d :: D)) : RLoadPost B w0 D l (.returned (.tuple #[ptr p, .int .i64 0])) w' := by
  unfold RLoadPost
  rw [h]
  exact ⟨p, rfl, hM⟩
/-- Files are read in a world that has what was there. -/
abbrev OldFiles (B : Nat) (w0 : World) (A : Option Addr) (l : List SF) : Prop := ∀ W, Below B w0 W → kF.C W A l.length l
theorem Many.rraw_at (hM : Many B w0 w (RRAW p d :: D)) (hl : (filesOf d).length ≤ 1099511627776) (nm : ByteArray) :
    Calls Try.prog 37 #[ptr p, .string nm] w fun e w' => e = .returned (.int .i64 (match pos nm d.fs with | some i => (i : Int) | none => -1)) ∧ w = w' := by
  obtain ⟨F, ⟨v, hI⟩, _⟩ := hM.get (i := 0) rfl
  have := rat_calls hI nm hl
  rwa [posI_files] at this
theorem Many.rraw_size (hM : Many B w0 w (RRAW p d :: D)) (hl : (filesOf d).length ≤ 1099511627776) (ht : total d.fs ≤ 1099511627776) :
    Calls Try.prog 17 #[ptr p] w fun e w' => e = .returned (.int .i64 (total d.fs)) ∧ w = w' := by
  obtain ⟨F, ⟨v, hI⟩, _⟩ := hM.get (i := 0) rfl
  have := rsize_calls hI hl (by rw [sumD_files]; exact ht)
  rwa [sumD_files] at this
theorem Many.rraw_files (hM : Many B w0 w (RRAW p d :: D)) : ∃ A c, w.cell? ⟨p, 0, none⟩ = some (.slice A (filesOf d).length c) := by
  obtain ⟨F, ⟨v, hI⟩, _⟩ := hM.get (i := 0) rfl
  obtain ⟨A, c, rfl, _, _⟩ := hI.reads
  have b0 := sb_cell hI.blk 0
  exact ⟨A, c, by simpa using b0⟩
set_option maxHeartbeats 4000000 in
set_option maxRecDepth 100000 in
theorem m_rload (hM : Many B w0 w D) {A : Option Addr} {c : Nat} {l : List SF} (hs : OldFiles B w0 A l) (hl : l.length ≤ 1048576) (hf : ∀ x ∈ l, FileFits x) (ht : ((l.map fun f => f.f1.length).sum) ≤ 1099511627776) :
    Calls Try.prog 31 #[.slice A l.length c] w (RLoadPost B w0 D l) := by
  have HM := Lib.hid hM
  have HS := Lib.hid hs
  have HF := Lib.hid hf
  have HT := Lib.hid ht
  clear hM hs hf ht
  have H1 : Hid (Many B w0 (w.alloc (.cells #[.slice none 0 0, .int .i64 0, .bool false, .string ⟨#[]⟩] 29)) (RRAW w.heap.size St.new :: D)) :=
    Lib.hid ((zero_ref HM.out).front.as (i := 0) (u := RRAW w.heap.size St.new) rfl (fun F h => h.1))
  obtain ⟨p, hp⟩ : ∃ p, p = w.heap.size := ⟨_, rfl⟩
  go_enter Try.func31, Try.ntmps31
  go_upto_region 3 with fail
  rw [← hp] at H1 ⊢
  generalize World.alloc _ _ = w1 at H1 ⊢
  clear hp HM
  go_loopw [5, 6] (fun v5 v6 wr => ∃ (k : Nat) (d : St), k ≤ l.length ∧ v5 = .int .i64 k ∧ Hid (Half l k d) ∧ Hid (Many B w0 wr (RRAW p d :: D))) (fun v5 _ _ => l.length - (intOf v5).toNat)
  case atStart => exact ⟨0, St.new, Nat.zero_le _, rfl, Lib.hid (Half.new l), H1⟩
  case round =>
    obtain ⟨k, d, hk, rfl, HH, HR⟩ := hrel
    have hfl : (filesOf d).length = k := by rw [← HH.out.cnt]; simp [filesOf]
    by_cases hlt : k < l.length
    · obtain ⟨ad, A4, c4, rfl, x0, x1, x2, hl4, hC4⟩ := files_at (HS.out wr HR.out.below) hlt
      have hfit := HF.out _ (List.getElem_mem hlt)
      obtain ⟨x, hx⟩ : ∃ x, x = l[k] := ⟨_, rfl⟩
      rw [← hx] at x0 x1 x2 hl4 hC4 hfit
      have HX := Lib.hid hx
      clear hx
      have HFn : Hid (x.f0.size ≤ 140737488351232) := Lib.hid hfit.name
      have HFd : Hid (x.f1.length ≤ 1099511627776) := Lib.hid hfit.dat
      have hdl : (x.f1.length : Int) ≤ 1099511627776 := by have := hfit.dat; omega
      clear hfit
      have HLT := Lib.hid hlt
      have HC4 := Lib.hid hC4
      have HL4 := Lib.hid hl4
      clear hC4 hl4
      have HN1 : Hid (okName x.f0 = false → load l = (7, none)) := Lib.hid (fun h => HH.out.no1 HLT.out (by rw [← HX.out]; exact h))
      have HN2 : Hid (okName x.f0 = true → (look Fl.nm x.f0 d.fs).isSome = true → load l = (9, none)) := Lib.hid (fun h h2 => HH.out.no2 HLT.out (by rw [← HX.out]; exact h) (by rw [← HX.out]; exact h2))
      have HN3 : Hid (okName x.f0 = true → (look Fl.nm x.f0 d.fs).isSome = false → x.f2 < 0 ∨ (x.f1.length : Int) < x.f2 → load l = (1, none)) := Lib.hid (fun h h2 h3 => HH.out.no3 HLT.out (by rw [← HX.out]; exact h) (by rw [← HX.out]; exact h2) (by rw [← HX.out]; exact h3))
      have HST : Hid (okName x.f0 = true → (look Fl.nm x.f0 d.fs).isSome = false → ¬ (x.f2 < 0 ∨ (x.f1.length : Int) < x.f2) → Half l (k + 1) { d with fs := ins Fl.nm (SF.fl x) d.fs }) := Lib.hid (fun h h2 h3 => by rw [HX.out] at h h2 h3 ⊢; exact HH.out.step HLT.out h (by simpa using h2) h3)
      clear HX
      obtain ⟨nm, dat, sy⟩ := x
      simp only at *
      have HFL : Hid ((filesOf d).length ≤ 1048576) := Lib.hid (by omega)
      clear hfl
      cases hok : okName nm with
      | false =>
        have HNo := Lib.hid (HN1.out hok)
        have HOK := Lib.hid hok
        clear hok HN1 HN2 HN3 HST
        go_wp2_with (go_at_call 36; refine (rname_calls nm _ (by have := HFn.out; omega)).mono ?_; rw [HOK.out]; rintro e w2 ⟨rfl, ⟨nd, rfl⟩⟩)
        go_ret2
        exact RLoadPost.no HNo.out (HR.out.read (pw_below_drewN (Below.refl _ _) nd)).tail
      | true =>
        have HOK := Lib.hid hok
        cases hps : pos nm d.fs with
        | some i =>
          have hlk : (look Fl.nm nm d.fs).isSome = true := by
            cases h : look Fl.nm nm d.fs with
            | some _ => rfl
            | none => rw [← pos_none, hps] at h; cases h
          have HNo := Lib.hid (HN2.out hok hlk)
          have HPS := Lib.hid hps
          have t0 : decide (0 ≤ (i : Int)) = true := decide_eq_true (by omega)
          clear hok hps hlk HN1 HN2 HN3 HST
          go_wp2_with (first
            | (go_at_call 36; refine (rname_calls nm _ (by have := HFn.out; omega)).mono ?_; rw [HOK.out]; rintro e w2 ⟨rfl, ⟨nd, rfl⟩⟩; have HM2 := Lib.hid (HR.out.read (pw_below_drewN (Below.refl _ _) nd)))
            | (go_at_call 37; refine (HM2.out.rraw_at (by have := HFL.out; omega) nm).mono ?_; rw [HPS.out]; rintro e w3 ⟨rfl, rfl⟩))
          go_ret2
          exact RLoadPost.no HNo.out HM2.out.tail
        | none =>
          have hlk : look Fl.nm nm d.fs = none := pos_none.1 hps
          have hlk2 : (look Fl.nm nm d.fs).isSome = false := by rw [hlk]; rfl
          have HPS := Lib.hid hps
          have HLK := Lib.hid hlk
          by_cases hbad : sy < 0 ∨ (dat.length : Int) < sy
          · have HNo := Lib.hid (HN3.out hok hlk2 hbad)
            clear hok hps hlk hlk2 HN1 HN2 HN3 HST
            by_cases h0 : sy < 0
            · have t1 : decide (sy < 0) = true := decide_eq_true h0
              clear hbad
              go_upto_region 10 with (first
                | (go_at_call 36; refine (rname_calls nm _ (by have := HFn.out; omega)).mono ?_; rw [HOK.out]; rintro e w2 ⟨rfl, ⟨nd, rfl⟩⟩; have HM2 := Lib.hid (HR.out.read (pw_below_drewN (Below.refl _ _) nd)))
                | (go_at_call 37; refine (HM2.out.rraw_at (by have := HFL.out; omega) nm).mono ?_; rw [HPS.out]; rintro e w3 ⟨rfl, rfl⟩))
              go_quiet (fail)
              go_wp2
              go_ret2
              exact RLoadPost.no HNo.out (HM2.out.tail.read (by repeat (first | exact Below.refl _ _ | apply pw_below_drewN)))
            · have h1 : (dat.length : Int) < sy := by omega
              have t1 : decide (sy < 0) = false := decide_eq_false h0
              have t2 : decide ((dat.length : Int) < sy) = true := decide_eq_true h1
              clear hbad
              go_upto_region 10 with (first
                | (go_at_call 36; refine (rname_calls nm _ (by have := HFn.out; omega)).mono ?_; rw [HOK.out]; rintro e w2 ⟨rfl, ⟨nd, rfl⟩⟩; have HM2 := Lib.hid (HR.out.read (pw_below_drewN (Below.refl _ _) nd)))
                | (go_at_call 37; refine (HM2.out.rraw_at (by have := HFL.out; omega) nm).mono ?_; rw [HPS.out]; rintro e w3 ⟨rfl, rfl⟩))
              go_quiet (fail)
              go_wp2
              go_ret2
              exact RLoadPost.no HNo.out (HM2.out.tail.read (by repeat (first | exact Below.refl _ _ | apply pw_below_drewN)))
          · have HST2 := Lib.hid (HST.out hok hlk2 hbad)
            have h0 : 0 ≤ sy := by omega
            have h1 : sy ≤ dat.length := by omega
            obtain ⟨s, rfl⟩ := Int.eq_ofNat_of_zero_le h0
            have t1 : decide ((s : Int) < 0) = false := decide_eq_false (by omega)
            have t2 : decide ((dat.length : Int) < (s : Int)) = false := decide_eq_false (by omega)
            clear hok hps hlk hlk2 HN1 HN2 HN3 HST hbad h0
            go_upto_region 10 with (first
              | (go_at_call 36; refine (rname_calls nm _ (by have := HFn.out; omega)).mono ?_; rw [HOK.out]; rintro e w2 ⟨rfl, ⟨nd, rfl⟩⟩; have HM2 := Lib.hid (HR.out.read (pw_below_drewN (Below.refl _ _) nd)))
              | (go_at_call 37; refine (HM2.out.rraw_at (by have := HFL.out; omega) nm).mono ?_; rw [HPS.out]; rintro e w3 ⟨rfl, rfl⟩))
            go_quiet (fail)
            go_upto_region 12 with fail
            have HM3 := Lib.hid (HM2.out.read (pw_below_drewN (Below.refl _ _) nq))
            have HM4 := Lib.hid (HM3.out.read (below_drew (Below.refl _ _)))
            have HC6 := Lib.hid (Kd.C_drew (Kd.C_drewN (Kd.C_drewN HC4.out nd) nq))
            have c0d : (((wr.drewN nd).drewN nq).drew).cell? (ad.add (k * 3)) = some (.string nm) := x0
            have c1d : (((wr.drewN nd).drewN nq).drew).cell? ⟨(ad.add (k * 3)).block, (ad.add (k * 3)).off + 1, none⟩ = some (.slice A4 dat.length c4) := x1
            have c2d : (((wr.drewN nd).drewN nq).drew).cell? ⟨(ad.add (k * 3)).block, (ad.add (k * 3)).off + 2, none⟩ = some (.int .i64 s) := x2
            obtain ⟨F, ⟨v, hI⟩, hF, -, hst⟩ := HM4.out.get (i := 0) rfl
            have HI := Lib.hid hI
            have HSt : Hid (∀ {w' : World} {t' : Thing}, Chg F (((wr.drewN nd).drewN nq).drew) w' → t'.P w' (Gr F (((wr.drewN nd).drewN nq).drew) w') → Many B w0 w' ((RRAW p d :: D).set 0 t')) := Lib.hid hst
            clear hI hF hst x0 x1 x2 HC4 HM2 HM3 HR t1 t2
            refine start_ (n := 19) (S := fun w' => w'.cell? (ad.add (k * 3)) = some (.string nm) ∧ w'.cell? ⟨(ad.add (k * 3)).block, (ad.add (k * 3)).off + 1, none⟩ = some (.slice A4 dat.length c4) ∧ w'.cell? ⟨(ad.add (k * 3)).block, (ad.add (k * 3)).off + 2, none⟩ = some (.int .i64 s)) (ds := [18]) #[false, false, false, false, false, false, false, false, false, false, false, false, false, false, false, false, false, false, false] (by kernel_rfl) rfl rfl ⟨c0d, c1d, c2d⟩ (fun hHeld => ?_)
            refine with_tabW rloadT_tab rloadT_bits (fun HT_ HW_ => ?_)
            generalize World.drew _ = w6 at HC6 HI HSt c0d c1d c2d hHeld ⊢
            clear HM4
            refine pure_ (i := 0) (N := (some 51)) (v := ?_) (a' := ?_) #[true, false, false, false, false, false, false, false, false, false, false, false, false, false, false, false, false, false, false] rfl rfl (any_of HT_.out (by kernel_rfl)) (fun _ _ _ h => h) (Or.inl ⟨by rfl, ?_⟩) ?_ ?_
            rotate_left
            · intro w'
              go_simp
              with_reducible rfl
            rotate_left
            · simp only [Act.put, List.setIfInBounds_toArray, List.set_cons_zero, List.set_cons_succ, i64_w, i32_w]
              rfl
            refine pure_ (i := 1) (N := (some 52)) (v := ?_) (a' := ?_) #[true, true, false, false, false, false, false, false, false, false, false, false, false, false, false, false, false, false, false] rfl rfl (any_of HT_.out (by kernel_rfl)) (fun _ _ _ h => h) (Or.inl ⟨by rfl, ?_⟩) ?_ ?_
            rotate_left
            · intro w'
              go_simp
              with_reducible rfl
            rotate_left
            · simp only [Act.put, List.setIfInBounds_toArray, List.set_cons_zero, List.set_cons_succ, i64_w, i32_w]
              rfl
            refine pure_ (i := 2) (N := (some 53)) (v := ?_) (a' := ?_) #[true, true, true, false, false, false, false, false, false, false, false, false, false, false, false, false, false, false, false] rfl rfl (any_of HT_.out (by kernel_rfl)) (fun _ _ _ h => h) (Or.inl ⟨by rfl, ?_⟩) ?_ ?_
            rotate_left
            · intro w'
              go_simp
              with_reducible rfl
            rotate_left
            · simp only [Act.put, List.setIfInBounds_toArray, List.set_cons_zero, List.set_cons_succ, i64_w, i32_w]
              rfl
            refine pure_ (i := 3) (N := (some 54)) (v := ?_) (a' := ?_) #[true, true, true, true, false, false, false, false, false, false, false, false, false, false, false, false, false, false, false] rfl rfl (any_of HT_.out (by kernel_rfl)) (fun _ _ _ h => h) (Or.inl ⟨by rfl, ?_⟩) ?_ ?_
            rotate_left
            · intro w'
              go_simp
              with_reducible rfl
            rotate_left
            · simp only [Act.put, List.setIfInBounds_toArray, List.set_cons_zero, List.set_cons_succ, i64_w, i32_w]
              rfl
            refine pure_ (i := 4) (N := (some 55)) (v := ?_) (a' := ?_) #[true, true, true, true, true, false, false, false, false, false, false, false, false, false, false, false, false, false, false] rfl rfl (any_of HT_.out (by kernel_rfl)) (fun _ _ _ h => h) (Or.inl ⟨by rfl, ?_⟩) ?_ ?_
            rotate_left
            · intro w'
              go_simp
              with_reducible rfl
            rotate_left
            · simp only [Act.put, List.setIfInBounds_toArray, List.set_cons_zero, List.set_cons_succ, i64_w, i32_w]
              rfl
            refine pure_ (i := 6) (N := (some 57)) (v := ?_) (a' := ?_) #[true, true, true, true, true, false, true, false, false, false, false, false, false, false, false, false, false, false, false] rfl rfl (any_of HT_.out (by kernel_rfl)) (fun _ _ _ h => h) (Or.inl ⟨by rfl, ?_⟩) ?_ ?_
            rotate_left
            · intro w'
              go_simp
              with_reducible rfl
            rotate_left
            · simp only [Act.put, List.setIfInBounds_toArray, List.set_cons_zero, List.set_cons_succ, i64_w, i32_w]
              rfl
            refine pure_ (i := 7) (N := (some 58)) (v := ?_) (a' := ?_) #[true, true, true, true, true, false, true, true, false, false, false, false, false, false, false, false, false, false, false] rfl rfl (any_of HT_.out (by kernel_rfl)) (fun _ _ _ h => h) (Or.inl ⟨by rfl, ?_⟩) ?_ ?_
            rotate_left
            · intro w'
              go_simp
              with_reducible rfl
            rotate_left
            · simp only [Act.put, List.setIfInBounds_toArray, List.set_cons_zero, List.set_cons_succ, i64_w, i32_w]
              rfl
            refine pure_ (i := 8) (N := (some 59)) (v := ?_) (a' := ?_) #[true, true, true, true, true, false, true, true, true, false, false, false, false, false, false, false, false, false, false] rfl rfl (any_of HT_.out (by kernel_rfl)) (fun _ _ _ h => h) (Or.inl ⟨by rfl, ?_⟩) ?_ ?_
            rotate_left
            · intro w'
              go_simp
              with_reducible rfl
            rotate_left
            · simp only [Act.put, List.setIfInBounds_toArray, List.set_cons_zero, List.set_cons_succ, i64_w, i32_w]
              rfl
            refine pure_ (i := 9) (N := (some 60)) (v := ?_) (a' := ?_) #[true, true, true, true, true, false, true, true, true, true, false, false, false, false, false, false, false, false, false] rfl rfl (any_of HT_.out (by kernel_rfl)) (fun _ _ _ h => h) (Or.inl ⟨by rfl, ?_⟩) ?_ ?_
            rotate_left
            · intro w'
              go_simp
              with_reducible rfl
            rotate_left
            · simp only [Act.put, List.setIfInBounds_toArray, List.set_cons_zero, List.set_cons_succ, i64_w, i32_w]
              rfl
            refine pure_ (i := 12) (N := (some 63)) (v := ?_) (a' := ?_) #[true, true, true, true, true, false, true, true, true, true, false, false, true, false, false, false, false, false, false] rfl rfl (any_of HT_.out (by kernel_rfl)) (fun _ _ _ h => h) (Or.inl ⟨by rfl, ?_⟩) ?_ ?_
            rotate_left
            · intro w'
              go_simp
              with_reducible rfl
            rotate_left
            · simp only [Act.put, List.setIfInBounds_toArray, List.set_cons_zero, List.set_cons_succ, i64_w, i32_w]
              rfl
            refine pure_ (i := 13) (N := (some 64)) (v := ?_) (a' := ?_) #[true, true, true, true, true, false, true, true, true, true, false, false, true, true, false, false, false, false, false] rfl rfl (any_of HT_.out (by kernel_rfl)) (fun _ _ _ h => h) (Or.inl ⟨by rfl, ?_⟩) ?_ ?_
            rotate_left
            · intro w'
              go_simp
              with_reducible rfl
            rotate_left
            · simp only [Act.put, List.setIfInBounds_toArray, List.set_cons_zero, List.set_cons_succ, i64_w, i32_w]
              rfl
            refine pure_ (i := 14) (N := (some 65)) (v := ?_) (a' := ?_) #[true, true, true, true, true, false, true, true, true, true, false, false, true, true, true, false, false, false, false] rfl rfl (any_of HT_.out (by kernel_rfl)) (fun _ _ _ h => h) (Or.inl ⟨by rfl, ?_⟩) ?_ ?_
            rotate_left
            · intro w'
              go_simp
              with_reducible rfl
            rotate_left
            · simp only [Act.put, List.setIfInBounds_toArray, List.set_cons_zero, List.set_cons_succ, i64_w, i32_w]
              rfl
            refine pure_ (i := 15) (N := (some 66)) (v := ?_) (a' := ?_) #[true, true, true, true, true, false, true, true, true, true, false, false, true, true, true, true, false, false, false] rfl rfl (any_of HT_.out (by kernel_rfl)) (fun _ _ _ h => h) (Or.inl ⟨by rfl, ?_⟩) ?_ ?_
            rotate_left
            · intro w'
              go_simp
              with_reducible rfl
            rotate_left
            · simp only [Act.put, List.setIfInBounds_toArray, List.set_cons_zero, List.set_cons_succ, i64_w, i32_w]
              rfl
            refine take_ (i := 5) (N := (some 56)) (v := ?_) (a' := ?_) #[true, true, true, true, true, true, true, true, true, true, false, false, true, true, true, true, false, false, false] rfl rfl (take_ofW HT_.out HW_.out (by kernel_rfl)) (fun _ _ _ h => h) (Or.inl ⟨by rfl, ?_⟩) hHeld ?_ ?_
            rotate_left
            · rintro w' ⟨s0, s1, s2⟩
              go_simp
              with_reducible rfl
            rotate_left
            · simp only [Act.put, List.setIfInBounds_toArray, List.set_cons_zero, List.set_cons_succ, i64_w, i32_w]
              rfl
            refine take_ (i := 10) (N := (some 61)) (v := ?_) (a' := ?_) #[true, true, true, true, true, true, true, true, true, true, true, false, true, true, true, true, false, false, false] rfl rfl (take_ofW HT_.out HW_.out (by kernel_rfl)) (fun _ _ _ h => h) (Or.inl ⟨by rfl, ?_⟩) hHeld ?_ ?_
            rotate_left
            · rintro w' ⟨s0, s1, s2⟩
              go_simp
              with_reducible rfl
            rotate_left
            · simp only [Act.put, List.setIfInBounds_toArray, List.set_cons_zero, List.set_cons_succ, i64_w, i32_w]
              rfl
            refine take_ (i := 16) (N := (some 67)) (v := ?_) (a' := ?_) #[true, true, true, true, true, true, true, true, true, true, true, false, true, true, true, true, true, false, false] rfl rfl (take_ofW HT_.out HW_.out (by kernel_rfl)) (fun _ _ _ h => h) (Or.inl ⟨by rfl, ?_⟩) hHeld ?_ ?_
            rotate_left
            · rintro w' ⟨s0, s1, s2⟩
              go_simp
              with_reducible rfl
            rotate_left
            · simp only [Act.put, List.setIfInBounds_toArray, List.set_cons_zero, List.set_cons_succ, i64_w, i32_w]
              rfl
            refine one_ (i := 11) (N := (some 62)) #[true, true, true, true, true, true, true, true, true, true, true, true, true, true, true, true, true, false, false] rfl rfl (one_of HT_.out (by kernel_rfl)) (by decide) (fun K hK => ?_)
            refine goes_ Try.func40 (by kernel_rfl) rfl #[.slice A4 dat.length c4] (by rfl) rfl rfl (by (try simp only [List.map_toArray, List.map_cons, List.map_nil]); rfl) ?_
            with_reducible refine (bytes_calls A4 c4 dat _ (by exact HC6.out) (by exact HL4.out) (by exact HFd.out)).mono ?_
            rintro e w7 ⟨v7, rfl, ho7, hb7⟩
            refine ⟨_, rfl, ?_⟩
            have c0' := (hb7.cell (World.block_lt_of_cell? w6 _ c0d)).trans c0d
            have c1' := (hb7.cell (World.block_lt_of_cell? w6 _ c1d)).trans c1d
            have c2' := (hb7.cell (World.block_lt_of_cell? w6 _ c2d)).trans c2d
            obtain ⟨A7, c7, e7, hc7, hf7⟩ := fresh_foot ho7
            subst e7
            have hpl : p < w6.heap.size := HI.out.lt p HI.out.fp
            have HI7 := Lib.hid ((HI.out.below hb7).wide (G := Gr F w6 w7) (fun k h => .inl h) (Gr.lt HI.out.lt hb7.size))
            have HF7 := Lib.hid (Kd.F_mono hf7 (ok' := fun k => Gr F w6 w7 k ∧ k ≠ p) (fun k hk => ⟨.inr hk, by omega⟩))
            have Hc7 := Lib.hid hc7
            have HB7 := Lib.hid hb7
            clear ho7 hf7 hc7 hpl hb7
            refine hK.out _ _ ⟨c0', c1', c2'⟩ (fun hHeld => ?_)
            clear hK K
            refine norm_ (a' := ?_) ?_ ?_
            rotate_left
            · show Act.put _ (some 62) _ = _
              simp only [Act.put, List.setIfInBounds_toArray, List.set_cons_zero, List.set_cons_succ, i64_w, i32_w]
              rfl
            refine pure_ (i := 17) (N := (some 68)) (v := ?_) (a' := ?_) #[true, true, true, true, true, true, true, true, true, true, true, true, true, true, true, true, true, true, false] rfl rfl (any_of HT_.out (by kernel_rfl)) (fun _ _ _ h => h) (Or.inl ⟨by rfl, ?_⟩) ?_ ?_
            rotate_left
            · intro w'
              go_simp
              with_reducible rfl
            rotate_left
            · simp only [Act.put, List.setIfInBounds_toArray, List.set_cons_zero, List.set_cons_succ, i64_w, i32_w]
              rfl
            refine last_ (i := 18) (N := (some 69)) #[true, true, true, true, true, true, true, true, true, true, true, true, true, true, true, true, true, true, true] rfl rfl (one_of HT_.out (by kernel_rfl)) (by decide) (fun K hK => ?_)
            refine goes_ Try.func39 (by kernel_rfl) rfl #[ptr p, .agg #[.string nm, .slice A7 dat.length c7, .int .i64 s]] (by rfl) rfl rfl (by (try simp only [List.map_toArray, List.map_cons, List.map_nil]); rfl) ?_
            refine (rput_calls (by exact HI7.out) ⟨nm, dat, s⟩ A7 c7 (by exact Hc7.out) (by exact HF7.out) (by exact HFL.out)).mono ?_
            rintro e w8 ⟨rfl, v8, j, hR8, hc8, hj, hl1, hl2⟩
            refine ⟨_, rfl, ?_⟩
            have hpf := put_files (x := ⟨nm, dat, s⟩) (l := d.fs) HLK.out hj hl1 hl2
            have hc : Chg F w6 w8 := (Chg.of_below HB7.out).same (hc8.mono (fun k hk => by rw [hk]; exact HI.out.fp))
            have hR9 : RefIs w8 (Gr F w6 w8) p v8 (filesOf { d with fs := ins Fl.nm ⟨nm, dat, s⟩ d.fs }) d.armed d.down d.last := by
              show RefIs w8 (Gr F w6 w8) p v8 ((ins Fl.nm ⟨nm, dat, s⟩ d.fs).map Fl.out) d.armed d.down d.last
              rw [← hpf]
              exact hR8.wide (fun k hk => Gr.trans (G := F) (Chg.of_below HB7.out) (hc8.mono (fun k hk => by rw [hk]; exact HI.out.fp)) k hk) (Gr.lt HI.out.lt hc.size)
            have HM8 := Lib.hid (HSt.out (t' := RRAW p { d with fs := ins Fl.nm ⟨nm, dat, s⟩ d.fs }) hc ⟨v8, hR9⟩)
            clear hpf hc hR9 hR8 hc8 hj hl1 hl2
            refine hK.out _ _ ?_
            clear hK K
            refine norm_ (a' := ?_) ?_ ?_
            rotate_left
            · show Act.put _ (some 69) _ = _
              simp only [Act.put, List.setIfInBounds_toArray, List.set_cons_zero, List.set_cons_succ, i64_w, i32_w]
              rfl
            refine done_ (done_of HT_.out (by kernel_rfl)) ?_
            have hk2 : wrap64 ((k : Int) + 1) = (k : Int) + 1 := by unfold wrap64; omega
            clear c0' c1' c2' c0d c1d c2d
            go_wp2
            go_roundw
            case rel =>
              exact ⟨k + 1, _, by have := HLT.out; omega, by first | rfl | (rw [hk2]; rfl), Lib.hid HST2.out, HM8⟩
            case measure =>
              first
                | (show l.length - ((k : Int) + 1).toNat < l.length - (k : Int).toNat; have := HLT.out; omega)
                | (show l.length - (intOf (.int .i64 (wrap64 ((k : Int) + 1)))).toNat < l.length - (intOf (.int .i64 (k : Int))).toNat; rw [hk2]; show l.length - ((k : Int) + 1).toNat < l.length - (k : Int).toNat; have := HLT.out; omega)
    · have hkn : k = l.length := by omega
      subst hkn
      have htot : total d.fs ≤ 1099511627776 := by
        have h1 := HH.out.tot
        rw [List.take_length] at h1
        have h2 := HT.out
        omega
      obtain ⟨A5, c5, x0⟩ := HR.out.rraw_files
      rw [hfl] at x0
      have hle : (filesOf d).length ≤ 1099511627776 := by omega
      by_cases hbig : 256 < l.length
      · have HNo := Lib.hid (HH.out.no4 (.inl hbig))
        have t1 : decide ((256 : Int) < (l.length : Int)) = true := decide_eq_true (by omega)
        clear htot hle
        go_wp2
        go_ret2
        exact RLoadPost.no HNo.out HR.out.tail
      · have t1 : decide ((256 : Int) < (l.length : Int)) = false := decide_eq_false (by omega)
        have HTt := Lib.hid htot
        have HLe := Lib.hid hle
        have htn : (total d.fs : Int) ≤ 1099511627776 := by omega
        clear htot hle
        by_cases hfull : 16777216 < total d.fs
        · have HNo := Lib.hid (HH.out.no4 (.inr hfull))
          have t2 : decide ((16777216 : Int) < (total d.fs : Int)) = true := decide_eq_true (by omega)
          clear hbig hfull
          go_wp2_with (go_at_call 17; refine (HR.out.rraw_size (by exact HLe.out) (by exact HTt.out)).mono ?_; rintro e w2 ⟨rfl, rfl⟩)
          go_ret2
          exact RLoadPost.no HNo.out HR.out.tail
        · have HYes := Lib.hid (HH.out.yes (by omega))
          have HOk := Lib.hid (HH.out.ok (by omega) (by omega))
          have t2 : decide ((16777216 : Int) < (total d.fs : Int)) = false := decide_eq_false (by omega)
          clear hbig hfull
          go_wp2_with (go_at_call 17; refine (HR.out.rraw_size (by exact HLe.out) (by exact HTt.out)).mono ?_; rintro e w2 ⟨rfl, rfl⟩)
          go_ret2
          exact RLoadPost.yes HYes.out (HR.out.as (i := 0) (u := REF p d) rfl (fun F h => ⟨h, HOk.out⟩))
end
end Go.Proofs.Ytflajlnknimjaaa.Dk

/- Load of a disk's own files, in plain words: for DiskLoaded. -/
namespace Go.Proofs.Ytflajlnknimjaaa.Dk
open Go.RowKit Go.Maps Go.Proofs.YtflajlnknimjaaaW.PrintWords Go.Proofs.YtflajlnknimjaaaW.PrintMore Go.Proofs.Ytflajlnknimjaaa.Syn Go.Proofs.Ytflajlnknimjaaa.PDiskLoads

theorem ins_last {α : Type} {key : α → ByteArray} {x : α} : ∀ {l : List α}, (∀ y ∈ l, bytesBefore (bts (key y)) (bts (key x)) = true) → ins key x l = l ++ [x]
  | [], _ => rfl
  | y :: r, h => by
    unfold ins
    rw [if_neg (by rw [before_asymm (h y List.mem_cons_self)]; simp), ins_last (fun z hz => h z (List.mem_cons_of_mem _ hz))]
    rfl
theorem out_fl (f : Fl) : SF.fl f.out = f := by
  cases f
  simp [SF.fl, Fl.out]
/-- A disk of these files, just loaded. -/
def ofFiles (l : List Fl) : St := ⟨l, nil_, 0, false⟩
theorem half_files {d : St} (ok : d.Ok) : ∀ k, k ≤ d.fs.length → Half (filesOf d) k (ofFiles (d.fs.take k)) := by
  intro k
  induction k with
  | zero => exact fun _ => Half.new _
  | succ k ih =>
    intro hk
    have hlt : k < d.fs.length := by omega
    have hlt2 : k < (filesOf d).length := by simpa [filesOf] using hlt
    have e : (filesOf d)[k] = d.fs[k].out := by simp [filesOf]
    have hm := List.getElem_mem hlt
    have hsrt : ∀ y ∈ d.fs.take k, bytesBefore (bts y.nm) (bts d.fs[k].nm) = true := by
      intro y hy
      obtain ⟨j, hj, rfl⟩ := List.getElem_of_mem hy
      rw [List.length_take] at hj
      rw [List.getElem_take]
      exact List.pairwise_iff_getElem.1 ok.srt j k (by omega) hlt (by omega)
    have h := (ih (by omega)).step hlt2 (by rw [e]; exact ok.named _ hm) (by
      rw [e]
      show look Fl.nm d.fs[k].nm (d.fs.take k) = none
      exact look_none.2 (fun y hy => before_ne (hsrt y hy))) (by
      rw [e]
      have := ok.syn _ hm
      show ¬ ((d.fs[k].syn : Int) < 0 ∨ (d.fs[k].dat.length : Int) < (d.fs[k].syn : Int))
      omega)
    rw [e, out_fl] at h
    have e2 : ins Fl.nm d.fs[k] (ofFiles (d.fs.take k)).fs = d.fs.take (k + 1) := by
      show ins Fl.nm d.fs[k] (d.fs.take k) = _
      rw [ins_last hsrt, List.take_succ_eq_append_getElem hlt]
    rw [e2] at h
    exact h
theorem load_files {d : St} (ok : d.Ok) : load (filesOf d) = (0, some (ofFiles d.fs)) := by
  have h := half_files ok d.fs.length (Nat.le_refl _)
  rw [List.take_length] at h
  have hl : (filesOf d).length = d.fs.length := by simp [filesOf]
  rw [← hl] at h
  refine h.yes ?_
  have h1 := ok.cnt
  have h2 := ok.tot
  show ¬ (256 < (filesOf d).length ∨ 16777216 < total d.fs)
  omega
theorem files_of (l : List Fl) (d : St) (h : d.fs = l) : filesOf d = l.map Fl.out := by rw [filesOf, h]
theorem crash_loaded {d : St} (ok : d.Ok) : (ofFiles d.fs).crash 5 = d.crash 0 := by
  unfold St.crash
  congr 1
  refine List.map_congr_left fun x hx => ?_
  have hne : x.nm ≠ nil_ := by
    intro e
    have h := ok.named x hx
    rw [e] at h
    revert h
    decide
  have e1 : kept (ofFiles d.fs).last 5 x = x.syn := by unfold kept; rw [if_neg (by exact hne)]
  have e2 : kept d.last 0 x = x.syn := by unfold kept; split <;> simp
  rw [e1, e2]
theorem files_fits {d : St} (ok : d.Ok) : (∀ x ∈ filesOf d, FileFits x) ∧ ((filesOf d).map fun f => f.f1.length).sum ≤ 16777216 := by
  refine ⟨fun x hx => ?_, ?_⟩
  · have h2 := (files_len ok).2 x hx
    obtain ⟨f, hf, rfl⟩ := List.mem_map.1 hx
    exact ⟨by have := okName_size (ok.named f hf); show f.nm.size ≤ _; omega, h2⟩
  · have h := ok.tot
    unfold total at h
    unfold filesOf
    rw [List.map_map]
    exact h
end Go.Proofs.Ytflajlnknimjaaa.Dk

/- DiskLoaded: the walk of the law. -/
namespace Go.Proofs.Ytflajlnknimjaaa.Dk
open Go.RowKit Go.Maps Go.Proofs.YtflajlnknimjaaaW.PrintWords Go.Proofs.YtflajlnknimjaaaW.PrintMore Go.Proofs.YtflajlnknimjaaaW.PrintLast Go.Proofs.Ytflajlnknimjaaa.Syn Go.Proofs.Ytflajlnknimjaaa.PDiskLoads

def loadedT : Bool × List (List Nat × List Nat) := (true, [([], []), ([], []), ([], []), ([1, 2], [1, 2]), ([3], [3]), ([0, 4], [0, 4]), ([], []), ([], []), ([], []), ([7, 8], [7, 8]), ([9], [9]), ([6, 10, 5], [6, 10]), ([5, 11], [5, 11])])
def loadedTB : List Nat := [0, 0, 0, 6, 14, 31, 0, 0, 0, 384, 896, 2047, 4095]
theorem loadedT_tab : rtab .any (opsOf Try.f7 15) = loadedT := by kernel_rfl
theorem loadedT_bits : waitsOk loadedT.2 loadedTB = true := by kernel_rfl

/-- A disk behind operations. -/
def plays (s : St) (l : List SO) : St := l.foldl (fun d x => (told d x).2) s
theorem plays_take {s : St} {l : List SO} {k : Nat} (h : k < l.length) : (told (plays s (l.take k)) l[k]).2 = plays s (l.take (k + 1)) := by
  unfold plays
  rw [List.take_succ_eq_append_getElem h, List.foldl_append]
  rfl
section
variable {B i : Nat} {w0 w : World} {D : List Thing} {d : St}
theorem m_load2 (hM : Many B w0 w D) {A : Option Addr} {n c : Nat} (hi : D[i]? = some (FILES (.slice A n c) (filesOf d))) (ok : d.Ok) :
    Calls Try.prog 29 #[.slice A n c] w fun e w' => ∃ q, e = .returned (.tuple #[ptr q, .int .i64 0]) ∧ Many B w0 w' (D ++ [DISK q (ofFiles d.fs)]) := by
  obtain ⟨A1, c1, e1, _, _⟩ := hM.files hi
  cases e1
  have hcnt := ok.cnt
  have hlen : (filesOf d).length = d.fs.length := by simp [filesOf]
  refine (m_load hM hi (by omega) (files_fits ok).1 (by have := (files_fits ok).2; omega)).mono ?_
  intro e w' h
  unfold LoadPost at h
  rw [load_files ok] at h
  exact h
end

end Go.Proofs.Ytflajlnknimjaaa.Dk

/- DiskPlays: the walk of the law. -/
namespace Go.Proofs.Ytflajlnknimjaaa.Dk
open Go.RowKit Go.Maps Go.Proofs.YtflajlnknimjaaaW.PrintWords Go.Proofs.YtflajlnknimjaaaW.PrintMore Go.Proofs.YtflajlnknimjaaaW.PrintLast Go.Proofs.Ytflajlnknimjaaa.Syn Go.Proofs.Ytflajlnknimjaaa.PDiskLoads
set_option linter.unusedVariables false
set_option linter.unusedSimpArgs false
end Go.Proofs.Ytflajlnknimjaaa.Dk
