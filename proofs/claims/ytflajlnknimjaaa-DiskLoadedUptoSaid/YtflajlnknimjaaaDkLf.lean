/- Load: its walk. -/
import Derived.Test.YtflajlnknimjaaaDkLe
import Derived.Deep.QuietTactic
import Derived.BigQuiet
namespace Go.Proofs.Ytflajlnknimjaaa.Dk
open Go.RowKit Go.Maps Go.Proofs.YtflajlnknimjaaaW.PrintWords Go.Proofs.YtflajlnknimjaaaW.PrintMore Go.Proofs.YtflajlnknimjaaaW.PrintLast Go.Proofs.Ytflajlnknimjaaa.Syn Go.Proofs.Ytflajlnknimjaaa.PDiskLoads

def loadT : Bool × List (List Nat × List Nat) := (true, [([], []), ([0], [0]), ([1], [1]), ([2], [2]), ([], []), ([4], [4]), ([], []), ([6], [6]), ([7], [7]), ([], []), ([9], [9]), ([8, 10], [8, 10]), ([11], [11]), ([3, 5, 12, 8, 0, 1, 2, 3, 4, 5, 6, 7, 8, 9, 10, 11, 12], [3, 5, 12])])
def loadTB : List Nat := [0, 1, 3, 7, 0, 16, 0, 64, 192, 0, 512, 1984, 4032, 8191]
theorem loadT_tab : rtab .any (opsOf Try.f29 11) = loadT := by kernel_rfl
theorem loadT_bits : waitsOk loadT.2 loadTB = true := by kernel_rfl

section
variable {B i : Nat} {w0 w : World} {D : List Thing}
theorem get_left {t : Thing} (h : D[i]? = some t) (u : Thing) : (D ++ [u])[i]? = some t := by
  rw [List.getElem?_append_left (List.getElem?_eq_some_iff.1 h).1, h]
set_option maxHeartbeats 2000000 in
set_option maxRecDepth 100000 in
theorem m_load (hM : Many B w0 w D) {A : Option Addr} {c : Nat} {l : List SF} (hi : D[i]? = some (FILES (.slice A l.length c) l)) (hl : l.length ≤ 1048576) (hf : ∀ x ∈ l, FileFits x) (ht : ((l.map fun f => f.f1.length).sum) ≤ 1099511627776) :
    Calls Try.prog 29 #[.slice A l.length c] w (LoadPost B w0 D l) := by
  have HM := Lib.hid hM
  have HI := Lib.hid hi
  have HF := Lib.hid hf
  have HT := Lib.hid ht
  clear hM hi hf ht
  go_enter Try.func29, Try.ntmps29
  go_wp2_with (go_at_call 10; refine (m_new HM.out).mono ?_; rintro e w1 ⟨p, rfl, h1⟩; have H1 := Lib.hid h1.raw; clear h1)
  go_loopw [10] (fun v10 wr => ∃ (k : Nat) (d : St), k ≤ l.length ∧ v10 = .int .i64 k ∧ Hid (Half l k d) ∧ Hid (Many B w0 wr (D ++ [RAW p d]))) (fun v10 _ => l.length - (intOf v10).toNat)
  case atStart => exact ⟨0, St.new, Nat.zero_le _, rfl, Lib.hid (Half.new l), H1⟩
  case round =>
    obtain ⟨k, d, hk, rfl, HH, HR⟩ := hrel
    by_cases hlt : k < l.length
    · obtain ⟨ad, A4, c4, rfl, x0, x1, x2, hl4, hC4⟩ := HR.out.at (i := i) (get_left HI.out _) hlt
      have hfit := HF.out _ (List.getElem_mem hlt)
      obtain ⟨x, hx⟩ : ∃ x, x = l[k] := ⟨_, rfl⟩
      rw [← hx] at x0 x1 x2 hl4 hC4 hfit
      have HX := Lib.hid hx
      clear hx
      obtain ⟨W, hW⟩ : ∃ W, W = wr.alloc (.cells #[.string x.f0, .slice A4 x.f1.length c4, .int .i64 x.f2] 36) := ⟨_, rfl⟩
      have hbl : Below wr.heap.size wr W := by rw [hW]; exact below_alloc (Below.refl _ _) _
      have b : W.heap[wr.heap.size]? = some (.cells #[.string x.f0, .slice A4 x.f1.length c4, .int .i64 x.f2] 36 (0, 0)) := by rw [hW]; exact sb_new _ _
      have hMW := HR.out.read hbl
      have hCW := Kd.C_below hC4 hbl
      have hWs : W.heap.size = wr.heap.size + 1 := by rw [hW]; simp
      have HCW := Lib.hid hCW
      have HMW := Lib.hid hMW
      have HBW := Lib.hid b
      have HWs := Lib.hid hWs
      clear hCW hMW hbl hC4 b hWs
      have HFn : Hid (x.f0.size ≤ 140737488351232) := Lib.hid hfit.name
      have HFd : Hid (x.f1.length ≤ 1099511627776) := Lib.hid hfit.dat
      have hdl : (x.f1.length : Int) ≤ 1099511627776 := by have := hfit.dat; omega
      clear hfit
      have HLT := Lib.hid hlt
      have HN1 : Hid (okName x.f0 = false → load l = (7, none)) := Lib.hid (fun h => HH.out.no1 HLT.out (by rw [← HX.out]; exact h))
      have HN2 : Hid (okName x.f0 = true → (look Fl.nm x.f0 d.fs).isSome = true → load l = (9, none)) := Lib.hid (fun h h2 => HH.out.no2 HLT.out (by rw [← HX.out]; exact h) (by rw [← HX.out]; exact h2))
      have HN3 : Hid (okName x.f0 = true → (look Fl.nm x.f0 d.fs).isSome = false → x.f2 < 0 ∨ (x.f1.length : Int) < x.f2 → load l = (1, none)) := Lib.hid (fun h h2 h3 => HH.out.no3 HLT.out (by rw [← HX.out]; exact h) (by rw [← HX.out]; exact h2) (by rw [← HX.out]; exact h3))
      have HST : Hid (okName x.f0 = true → (look Fl.nm x.f0 d.fs).isSome = false → ¬ (x.f2 < 0 ∨ (x.f1.length : Int) < x.f2) → Half l (k + 1) { d with fs := ins Fl.nm (SF.fl x) d.fs }) := Lib.hid (fun h h2 h3 => by rw [HX.out] at h h2 h3 ⊢; exact HH.out.step HLT.out h (by simpa using h2) h3)
      go_upto_region 5 with (fail)
      rw [← hW]
      clear hW HX x0 x1 x2
      obtain ⟨q, hq⟩ : ∃ q, q = wr.heap.size := ⟨_, rfl⟩
      have hqW : q < W.heap.size := by rw [HWs.out, hq]; omega
      have HQW := Lib.hid hqW
      rw [← hq] at HBW ⊢
      have HMr := Lib.hid HR
      clear hq HWs HR HMr hqW
      obtain ⟨nm, dat, sy⟩ := x
      simp only at *
      have z0 := sb_cell HBW.out 0
      simp at z0
      cases hok : okName nm with
      | false =>
        have HNo := Lib.hid (HN1.out hok)
        have HOK := Lib.hid hok
        clear hok HN1 HN2 HN3 HST
        go_wp2_with (go_at_call 33; refine (named_calls _ _ (by have := HFn.out; omega)).mono ?_; rw [HOK.out]; rintro e w2 ⟨rfl, hd⟩; have HD := Lib.hid hd; clear hd)
        go_ret2
        exact LoadPost.no HNo.out (HMW.out.read HD.out.below).less
      | true =>
      cases hlk : (look Fl.nm nm d.fs).isSome with
      | true =>
        have HNo := Lib.hid (HN2.out hok hlk)
        have HOK := Lib.hid hok
        have HLK := Lib.hid hlk
        clear hok hlk HN1 HN2 HN3 HST
        go_wp2_with (first
          | (go_at_call 33; refine (named_calls _ _ (by have := HFn.out; omega)).mono ?_; rw [HOK.out]; rintro e w2 ⟨rfl, hd⟩; have b2 := (hd.below.block _ (blk_lt HBW.out)).trans HBW.out; have y0 := sb_cell b2 0; have y1 := sb_cell b2 1; have y2 := sb_cell b2 2; simp at y0 y1 y2; have HB2 := Lib.hid b2; have HM2 := Lib.hid (HMW.out.read hd.below); clear b2 hd)
          | (go_at_call 34; refine (raw_has (i := D.length) (by exact HM2.out) (get_last _ _) nm (by exact HFn.out)).mono ?_; rw [HLK.out]; rintro e w3 ⟨rfl, rfl⟩))
        go_ret2
        exact LoadPost.no HNo.out HM2.out.less
      | false =>
      by_cases hbad : sy < 0 ∨ (dat.length : Int) < sy
      · have HNo := Lib.hid (HN3.out hok hlk hbad)
        have HOK := Lib.hid hok
        have HLK := Lib.hid hlk
        clear hok hlk HN1 HN2 HN3 HST
        by_cases h0 : sy < 0
        · have t1 : decide (sy < 0) = true := decide_eq_true h0
          clear hbad
          go_wp2_with (first
            | (go_at_call 33; refine (named_calls _ _ (by have := HFn.out; omega)).mono ?_; rw [HOK.out]; rintro e w2 ⟨rfl, hd⟩; have b2 := (hd.below.block _ (blk_lt HBW.out)).trans HBW.out; have y0 := sb_cell b2 0; have y1 := sb_cell b2 1; have y2 := sb_cell b2 2; simp at y0 y1 y2; have HB2 := Lib.hid b2; have HM2 := Lib.hid (HMW.out.read hd.below); clear b2 hd)
            | (go_at_call 34; refine (raw_has (i := D.length) (by exact HM2.out) (get_last _ _) nm (by exact HFn.out)).mono ?_; rw [HLK.out]; rintro e w3 ⟨rfl, rfl⟩))
          go_ret2
          exact LoadPost.no HNo.out HM2.out.less
        · have h1 : (dat.length : Int) < sy := by omega
          have t1 : decide (sy < 0) = false := decide_eq_false h0
          have t2 : decide ((dat.length : Int) < sy) = true := decide_eq_true h1
          clear hbad
          go_wp2_with (first
            | (go_at_call 33; refine (named_calls _ _ (by have := HFn.out; omega)).mono ?_; rw [HOK.out]; rintro e w2 ⟨rfl, hd⟩; have b2 := (hd.below.block _ (blk_lt HBW.out)).trans HBW.out; have y0 := sb_cell b2 0; have y1 := sb_cell b2 1; have y2 := sb_cell b2 2; simp at y0 y1 y2; have HB2 := Lib.hid b2; have HM2 := Lib.hid (HMW.out.read hd.below); clear b2 hd)
            | (go_at_call 34; refine (raw_has (i := D.length) (by exact HM2.out) (get_last _ _) nm (by exact HFn.out)).mono ?_; rw [HLK.out]; rintro e w3 ⟨rfl, rfl⟩))
          go_ret2
          exact LoadPost.no HNo.out HM2.out.less
      · have HST2 := Lib.hid (HST.out hok hlk hbad)
        have HOK := Lib.hid hok
        have HLK := Lib.hid hlk
        have h0 : 0 ≤ sy := by omega
        have h1 : sy ≤ dat.length := by omega
        obtain ⟨s, rfl⟩ := Int.eq_ofNat_of_zero_le h0
        have t1 : decide ((s : Int) < 0) = false := decide_eq_false (by omega)
        have t2 : decide ((dat.length : Int) < (s : Int)) = false := decide_eq_false (by omega)
        clear hok hlk HN1 HN2 HN3 HST hbad h0
        go_upto_region 11 with (first
          | (go_at_call 33; refine (named_calls _ _ (by have := HFn.out; omega)).mono ?_; rw [HOK.out]; rintro e w2 ⟨rfl, hd⟩; have b2 := (hd.below.block _ (blk_lt HBW.out)).trans HBW.out; have y0 := sb_cell b2 0; have y1 := sb_cell b2 1; have y2 := sb_cell b2 2; simp at y0 y1 y2; have HB2 := Lib.hid b2; have HM2 := Lib.hid (HMW.out.read hd.below); have HC2 := Lib.hid (Kd.C_below HCW.out hd.below); clear b2 hd)
          | (go_at_call 34; refine (raw_has (i := D.length) (by exact HM2.out) (get_last _ _) nm (by exact HFn.out)).mono ?_; rw [HLK.out]; rintro e w3 ⟨rfl, rfl⟩))
        clear z0 t1 t2 h1
        obtain ⟨F, hraw, hF, -, hst⟩ := HM2.out.get (get_last D _)
        obtain ⟨m, L, hI, hL⟩ := hraw
        have b0 := sb_cell hI.blk 0
        simp at b0
        have hno : look FileC.nm nm L = none := by
          have h2 := look_abs hL nm
          cases hk3 : look FileC.nm nm L with
          | none => rfl
          | some c3 =>
            have h3 := HLK.out
            rw [h2, hk3] at h3
            simp at h3
        have hLk : L.length = k := by rw [← HH.out.cnt, ← hL, List.length_map]
        have hqm : m ≠ q := hI.map.ne HB2.out
        have hpm : m ≠ p := hI.map.ne hI.blk
        have HI2 := Lib.hid hI
        have HL2 := Lib.hid hL
        have HNO := Lib.hid hno
        have HLk := Lib.hid hLk
        have Hqm := Lib.hid hqm
        have Hpm := Lib.hid hpm
        have HFl := Lib.hid hF
        have HSt : Hid (∀ {w' : World} {t' : Thing}, Chg F w2 w' → t'.P w' (Gr F w2 w') → Many B w0 w' ((D ++ [RAW p d]).set D.length t')) := Lib.hid hst
        clear hI hL hno hLk hqm hpm hF hst
        have c0d : w2.drew.cell? ⟨p, 0, none⟩ = some (.map (some m)) := b0
        have c1d : w2.drew.cell? ⟨q, 0, none⟩ = some (.string nm) := y0
        have c2d : w2.drew.cell? ⟨q, 1, none⟩ = some (.slice A4 dat.length c4) := y1
        have c3d : w2.drew.cell? ⟨q, 2, none⟩ = some (.int .i64 s) := y2
        have HC6 := Lib.hid (Kd.C_drew HC2.out)
        have HB6 : Hid (Below w2.heap.size w2 w2.drew) := Lib.hid (below_drew (Below.refl _ _))
        clear b0 y0 y1 y2
        refine start_ (n := 14) (S := fun w' => w'.cell? ⟨p, 0, none⟩ = some (.map (some m)) ∧ w'.cell? ⟨q, 0, none⟩ = some (.string nm) ∧ w'.cell? ⟨q, 1, none⟩ = some (.slice A4 dat.length c4) ∧ w'.cell? ⟨q, 2, none⟩ = some (.int .i64 s)) (ds := []) #[false, false, false, false, false, false, false, false, false, false, false, false, false, false] (by kernel_rfl) rfl rfl ⟨c0d, c1d, c2d, c3d⟩ (fun hHeld => ?_)
        refine with_tabW loadT_tab loadT_bits (fun HT_ HW_ => ?_)
        generalize w2.drew = w6 at HC6 HB6 c0d c1d c2d c3d hHeld ⊢
        refine pure_ (i := 0) (N := (some 36)) (v := ?_) (a' := ?_) #[true, false, false, false, false, false, false, false, false, false, false, false, false, false] rfl rfl (any_of HT_.out (by kernel_rfl)) (fun _ _ _ h => h) (Or.inl ⟨by rfl, ?_⟩) ?_ ?_
        rotate_left
        · intro w'
          go_simp
          with_reducible rfl
        rotate_left
        · simp only [Act.put, List.setIfInBounds_toArray, List.set_cons_zero, List.set_cons_succ, i64_w, i32_w]
          rfl
        refine pure_ (i := 1) (N := (some 37)) (v := ?_) (a' := ?_) #[true, true, false, false, false, false, false, false, false, false, false, false, false, false] rfl rfl (any_of HT_.out (by kernel_rfl)) (fun _ _ _ h => h) (Or.inl ⟨by rfl, ?_⟩) ?_ ?_
        rotate_left
        · intro w'
          go_simp
          with_reducible rfl
        rotate_left
        · simp only [Act.put, List.setIfInBounds_toArray, List.set_cons_zero, List.set_cons_succ, i64_w, i32_w]
          rfl
        refine pure_ (i := 2) (N := (some 38)) (v := ?_) (a' := ?_) #[true, true, true, false, false, false, false, false, false, false, false, false, false, false] rfl rfl (any_of HT_.out (by kernel_rfl)) (fun _ _ _ h => h) (Or.inl ⟨by rfl, ?_⟩) ?_ ?_
        rotate_left
        · intro w'
          go_simp
          with_reducible rfl
        rotate_left
        · simp only [Act.put, List.setIfInBounds_toArray, List.set_cons_zero, List.set_cons_succ, i64_w, i32_w]
          rfl
        refine pure_ (i := 4) (N := (some 40)) (v := ?_) (a' := ?_) #[true, true, true, false, true, false, false, false, false, false, false, false, false, false] rfl rfl (any_of HT_.out (by kernel_rfl)) (fun _ _ _ h => h) (Or.inl ⟨by rfl, ?_⟩) ?_ ?_
        rotate_left
        · intro w'
          go_simp
          with_reducible rfl
        rotate_left
        · simp only [Act.put, List.setIfInBounds_toArray, List.set_cons_zero, List.set_cons_succ, i64_w, i32_w]
          rfl
        refine pure_ (i := 6) (N := (some 42)) (v := ?_) (a' := ?_) #[true, true, true, false, true, false, true, false, false, false, false, false, false, false] rfl rfl (any_of HT_.out (by kernel_rfl)) (fun _ _ _ h => h) (Or.inl ⟨by rfl, ?_⟩) ?_ ?_
        rotate_left
        · intro w'
          go_simp
          with_reducible rfl
        rotate_left
        · simp only [Act.put, List.setIfInBounds_toArray, List.set_cons_zero, List.set_cons_succ, i64_w, i32_w]
          rfl
        refine pure_ (i := 9) (N := (some 45)) (v := ?_) (a' := ?_) #[true, true, true, false, true, false, true, false, false, true, false, false, false, false] rfl rfl (any_of HT_.out (by kernel_rfl)) (fun _ _ _ h => h) (Or.inl ⟨by rfl, ?_⟩) ?_ ?_
        rotate_left
        · intro w'
          go_simp
          with_reducible rfl
        rotate_left
        · simp only [Act.put, List.setIfInBounds_toArray, List.set_cons_zero, List.set_cons_succ, i64_w, i32_w]
          rfl
        refine take_ (i := 3) (N := (some 39)) (v := ?_) (a' := ?_) #[true, true, true, true, true, false, true, false, false, true, false, false, false, false] rfl rfl (take_ofW HT_.out HW_.out (by kernel_rfl)) (fun _ _ _ h => h) (Or.inl ⟨by rfl, ?_⟩) hHeld ?_ ?_
        rotate_left
        · rintro w' ⟨s0, s1, s2, s3⟩
          go_simp
          with_reducible rfl
        rotate_left
        · simp only [Act.put, List.setIfInBounds_toArray, List.set_cons_zero, List.set_cons_succ, i64_w, i32_w]
          rfl
        refine take_ (i := 5) (N := (some 41)) (v := ?_) (a' := ?_) #[true, true, true, true, true, true, true, false, false, true, false, false, false, false] rfl rfl (take_ofW HT_.out HW_.out (by kernel_rfl)) (fun _ _ _ h => h) (Or.inl ⟨by rfl, ?_⟩) hHeld ?_ ?_
        rotate_left
        · rintro w' ⟨s0, s1, s2, s3⟩
          go_simp
          with_reducible rfl
        rotate_left
        · simp only [Act.put, List.setIfInBounds_toArray, List.set_cons_zero, List.set_cons_succ, i64_w, i32_w]
          rfl
        refine take_ (i := 7) (N := (some 43)) (v := ?_) (a' := ?_) #[true, true, true, true, true, true, true, true, false, true, false, false, false, false] rfl rfl (take_ofW HT_.out HW_.out (by kernel_rfl)) (fun _ _ _ h => h) (Or.inl ⟨by rfl, ?_⟩) hHeld ?_ ?_
        rotate_left
        · rintro w' ⟨s0, s1, s2, s3⟩
          go_simp
          with_reducible rfl
        rotate_left
        · simp only [Act.put, List.setIfInBounds_toArray, List.set_cons_zero, List.set_cons_succ, i64_w, i32_w]
          rfl
        refine take_ (i := 10) (N := (some 46)) (v := ?_) (a' := ?_) #[true, true, true, true, true, true, true, true, false, true, true, false, false, false] rfl rfl (take_ofW HT_.out HW_.out (by kernel_rfl)) (fun _ _ _ h => h) (Or.inl ⟨by rfl, ?_⟩) hHeld ?_ ?_
        rotate_left
        · rintro w' ⟨s0, s1, s2, s3⟩
          go_simp
          with_reducible rfl
        rotate_left
        · simp only [Act.put, List.setIfInBounds_toArray, List.set_cons_zero, List.set_cons_succ, i64_w, i32_w]
          rfl
        refine one_ (i := 8) (N := (some 44)) #[true, true, true, true, true, true, true, true, true, true, true, false, false, false] rfl rfl (one_of HT_.out (by kernel_rfl)) (by decide) (fun K hK => ?_)
        refine goes_ Try.func43 (by kernel_rfl) rfl #[.slice A4 dat.length c4] (by rfl) rfl rfl (by (try simp only [List.map_toArray, List.map_cons, List.map_nil]); rfl) ?_
        with_reducible refine (fresh_calls _ _ dat _ (by exact HC6.out) (by have := HFd.out; omega)).mono ?_
        rintro e w7 ⟨v7, rfl, ho7, hb7⟩
        refine ⟨_, rfl, ?_⟩
        have c0' := (hb7.cell (World.block_lt_of_cell? w6 _ c0d)).trans c0d
        have c1' := (hb7.cell (World.block_lt_of_cell? w6 _ c1d)).trans c1d
        have c2' := (hb7.cell (World.block_lt_of_cell? w6 _ c2d)).trans c2d
        have c3' := (hb7.cell (World.block_lt_of_cell? w6 _ c3d)).trans c3d
        have HB7 := Lib.hid (below_step HB6.out hb7)
        have hfd := fresh_drow ho7
        obtain ⟨A7, c7, e7⟩ := Kd.R_slice ho7
        subst e7
        have HF7 := Lib.hid hfd
        have HB67 := Lib.hid hb7
        clear hb7 ho7 hfd
        refine hK.out _ _ ⟨c0', c1', c2', c3'⟩ (fun hHeld => ?_)
        clear hK K
        refine norm_ (a' := ?_) ?_ ?_
        rotate_left
        · show Act.put _ (some 44) _ = _
          simp only [Act.put, List.setIfInBounds_toArray, List.set_cons_zero, List.set_cons_succ, i64_w, i32_w]
          rfl
        refine pure_ (i := 11) (N := (some 47)) (v := ?_) (a' := ?_) #[true, true, true, true, true, true, true, true, true, true, true, true, false, false] rfl rfl (any_of HT_.out (by kernel_rfl)) (fun _ _ _ h => h) (Or.inl ⟨by rfl, ?_⟩) ?_ ?_
        rotate_left
        · intro w'
          go_simp
          with_reducible rfl
        rotate_left
        · simp only [Act.put, List.setIfInBounds_toArray, List.set_cons_zero, List.set_cons_succ, i64_w, i32_w]
          rfl
        refine one_ (i := 12) (N := (some 48)) #[true, true, true, true, true, true, true, true, true, true, true, true, true, false] rfl rfl (one_of HT_.out (by kernel_rfl)) (by decide) (fun K hK => ?_)
        refine value_ (w1 := ?_) (v := ?_) (by rfl) rfl ?_ ?_
        rotate_left 2
        · go_simp
          constructor
          · rfl
          · rfl
        refine hK.out _ _ ⟨(World.cell?_alloc_lt _ _ _ (World.block_lt_of_cell? _ _ c0')).trans c0', (World.cell?_alloc_lt _ _ _ (World.block_lt_of_cell? _ _ c1')).trans c1', (World.cell?_alloc_lt _ _ _ (World.block_lt_of_cell? _ _ c2')).trans c2', (World.cell?_alloc_lt _ _ _ (World.block_lt_of_cell? _ _ c3')).trans c3'⟩ (fun hHeld => ?_)
        clear hK K
        refine norm_ (a' := ?_) ?_ ?_
        rotate_left
        · show Act.put _ (some 48) _ = _
          simp only [Act.put, List.setIfInBounds_toArray, List.set_cons_zero, List.set_cons_succ, i64_w, i32_w]
          rfl
        refine one_ (i := 13) (N := none) #[true, true, true, true, true, true, true, true, true, true, true, true, true, true] rfl rfl (one_of HT_.out (by kernel_rfl)) (by decide) (fun K hK => ?_)
        have hI7 := HI2.out.stay HB7.out.size (fun k hk => HB7.out.block k (HI2.out.lt k hk))
        obtain ⟨w9, hrun, hm9, ht9⟩ := MapAt.store (w := w7.alloc (.cells #[.slice A7 dat.length c7, .int .i64 s] 68)) (hI7.map.heap (Below.heap_alloc w7 _ m (hI7.lt m hI7.fm))) ⟨nm, w7.heap.size, .slice A7 dat.length c7, dat, s⟩ nm w7.heap.size rfl rfl (by have := HFn.out; unfold maxLen; omega) (by have := HLk.out; unfold maxLen; omega)
        have hI9 := hI7.added2 HI2.out.lt HB7.out.size HNO.out HF7.out.1 (fun g hg => Nat.le_trans HB6.out.size (HF7.out.2 g hg)) hm9 ht9
        have hth := turned_heap ht9
        have hc9 : Chg F w2 w9 := (Chg.of_below HB7.out).same ((Chg.alloc w7 _).same (turned_chg ht9 HI2.out.fm))
        have hM9 := HSt.out (t' := RAW p { d with fs := ins Fl.nm ⟨nm, dat, s⟩ d.fs }) hc9 ⟨m, _, hI9, by rw [map_ins (ka := FileC.nm) (kb := Fl.nm) FileC.abs (fun _ => rfl), HL2.out]; rfl⟩
        rw [set_last] at hM9
        have d0 := c0'
        have HM9 := Lib.hid hM9
        have hcell : ∀ {a : Addr} {v : Value}, w7.cell? a = some v → m ≠ a.block → w9.cell? a = some v := fun {a v} h hn => by
          have h1 := hth.2 a.block (fun e => hn e.symm)
          have h2 := (World.cell?_alloc_lt w7 (.cells #[.slice A7 dat.length c7, .int .i64 s] 68) a (World.block_lt_of_cell? w7 _ h)).trans h
          simpa [World.cell?, h1] using h2
        have e0 := hcell c0' Hpm.out
        have e1 := hcell c1' Hqm.out
        have e2 := hcell c2' Hqm.out
        have e3 := hcell c3' Hqm.out
        clear hcell hM9 hth hI7 hI9 hm9 ht9 hc9 d0
        refine skip_ (w1 := w9) (by rfl) rfl ?_ ?_
        · go_simp
        refine hK.out _ _ ⟨e0, e1, e2, e3⟩ (fun hHeld => ?_)
        clear hK K
        refine done_ (done_of HT_.out (by kernel_rfl)) ?_
        have hk2 : wrap64 ((k : Int) + 1) = (k : Int) + 1 := by unfold wrap64; omega
        clear hrun e0 e1 e2 e3 c0' c1' c2' c3' c0d c1d c2d c3d
        go_wp2
        go_roundw
        case rel =>
          refine ⟨k + 1, _, by have := HLT.out; omega, by first | rfl | (rw [hk2]; rfl), ?_, HM9⟩
          have := HST2.out
          exact Lib.hid this
        case measure =>
          first
            | (show l.length - ((k : Int) + 1).toNat < l.length - (k : Int).toNat; have := HLT.out; omega)
            | (show l.length - (intOf (.int .i64 (wrap64 ((k : Int) + 1)))).toNat < l.length - (intOf (.int .i64 (k : Int))).toNat; rw [hk2]; show l.length - ((k : Int) + 1).toNat < l.length - (k : Int).toNat; have := HLT.out; omega)
    · have hkn : k = l.length := by omega
      subst hkn
      have htot : total d.fs ≤ 1099511627776 := by
        have h1 := HH.out.tot
        rw [List.take_length] at h1
        have h2 := HT.out
        omega
      have hsrt := HH.out.srt
      by_cases hbig : 256 < l.length
      · have HNo := Lib.hid (HH.out.no4 (.inl hbig))
        have t1 : decide ((256 : Int) < (l.length : Int)) = true := decide_eq_true (by omega)
        clear hsrt htot
        go_wp2
        go_ret2
        exact LoadPost.no HNo.out HR.out.less
      · have t1 : decide ((256 : Int) < (l.length : Int)) = false := decide_eq_false (by omega)
        have HTt := Lib.hid htot
        have HSr := Lib.hid hsrt
        have htn : (total d.fs : Int) ≤ 1099511627776 := by omega
        clear htot hsrt
        by_cases hfull : 16777216 < total d.fs
        · have HNo := Lib.hid (HH.out.no4 (.inr hfull))
          have t2 : decide ((16777216 : Int) < (total d.fs : Int)) = true := decide_eq_true (by omega)
          clear hbig hfull
          go_wp2_with (go_at_call 16; refine (raw_size (i := D.length) (by exact HR.out) (get_last _ _) (by exact HSr.out) (by exact HTt.out)).mono ?_; rintro e w2 ⟨rfl, h2⟩; have H2 := Lib.hid h2; clear h2)
          go_ret2
          exact LoadPost.no HNo.out H2.out.less
        · have HYes := Lib.hid (HH.out.yes (by omega))
          have HOk := Lib.hid (HH.out.ok (by omega) (by omega))
          have t2 : decide ((16777216 : Int) < (total d.fs : Int)) = false := decide_eq_false (by omega)
          clear hbig hfull
          go_wp2_with (go_at_call 16; refine (raw_size (i := D.length) (by exact HR.out) (get_last _ _) (by exact HSr.out) (by exact HTt.out)).mono ?_; rintro e w2 ⟨rfl, h2⟩; have H2 := Lib.hid h2; clear h2)
          go_ret2
          exact LoadPost.yes HYes.out (H2.out.whole HOk.out)
end
end Go.Proofs.Ytflajlnknimjaaa.Dk
