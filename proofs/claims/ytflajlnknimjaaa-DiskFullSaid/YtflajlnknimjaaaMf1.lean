/- DiskFull: the walk of the law. -/
import Derived.Test.YtflajlnknimjaaaMl13
namespace Go.Proofs.Ytflajlnknimjaaa.Dk
open Go.RowKit Go.Maps Go.Proofs.YtflajlnknimjaaaW.PrintWords Go.Proofs.YtflajlnknimjaaaW.PrintMore Go.Proofs.YtflajlnknimjaaaW.PrintLast Go.Proofs.Ytflajlnknimjaaa.Syn Go.Proofs.Ytflajlnknimjaaa.PDiskLoads
set_option linter.unusedVariables false
set_option linter.unusedSimpArgs false

def full10T : Bool × List (List Nat × List Nat) := (true, [([], []), ([], []), ([], []), ([1, 2], [1, 2]), ([3], [3]), ([0, 4], [0, 4]), ([5, 5], [5]), ([], []), ([], []), ([], []), ([8, 9], [8, 9]), ([10], [10]), ([7, 11, 6], [7, 11]), ([6, 12], [6, 12]), ([13, 12, 0, 1, 2, 3, 4, 5, 6, 7, 8, 9, 10, 11, 12, 13], [13])])
def full10TB : List Nat := [0, 0, 0, 6, 14, 31, 63, 0, 0, 0, 768, 1792, 4095, 8191, 16383]
theorem full10T_tab : rtab .any (opsOf Try.f3 10) = full10T := by kernel_rfl
theorem full10T_bits : waitsOk full10T.2 full10TB = true := by kernel_rfl
def full22T : Bool × List (List Nat × List Nat) := (true, [([], []), ([0], [0]), ([], []), ([1, 2], [1, 2]), ([3, 1], [3]), ([4], [4]), ([5, 4, 4], [4, 5]), ([4], [4]), ([6, 7, 4], [4, 6, 7]), ([4, 8], [4, 8]), ([9, 6], [9]), ([10], [10]), ([11, 10, 10], [10, 11]), ([10], [10]), ([13, 12, 10], [10, 13]), ([12, 14, 10], [10, 12, 14]), ([10, 15], [10, 15]), ([16, 14], [16]), ([17], [17]), ([18, 17, 17], [17, 18]), ([19, 17], [17, 19]), ([17], [17]), ([21, 17], [17, 21]), ([22, 17], [17, 22]), ([23, 17], [17, 23]), ([24, 17], [17, 24]), ([20, 25, 17], [17, 20, 25]), ([17, 26], [17, 26]), ([27, 19, 0, 1, 2, 3, 4, 5, 6, 7, 8, 9, 10, 11, 12, 13, 14, 15, 16, 17, 18, 19, 20, 21, 22, 23, 24, 25, 26, 27], [27])])
def full22TB : List Nat := [0, 1, 0, 7, 15, 31, 63, 31, 255, 511, 1023, 2047, 4095, 2047, 16383, 32767, 65535, 131071, 262143, 524287, 1048575, 262143, 2359295, 6553599, 14942207, 31719423, 67108863, 134217727, 268435455]
theorem full22T_tab : rtab .any (opsOf Try.f3 22) = full22T := by kernel_rfl
theorem full22T_bits : waitsOk full22T.2 full22TB = true := by kernel_rfl
section
variable {B i : Nat} {w0 w : World} {D : List Thing} {t : Thing} {p q : Nat} {d : St}
theorem m_sizeB (hM : Many B w0 w D) (hi : D[i]? = some (DISK p d)) :
    Calls Try.prog 16 #[ptr p] w fun e w' => e = .returned (.int .i64 (total d.fs)) ∧ Below w.heap.size w w' := by
  obtain ⟨F, ⟨hd, ok⟩, hF, hO, hst⟩ := hM.get hi
  refine (size_calls hd ok.srt (by have := ok.tot; omega)).mono ?_
  rintro e w' ⟨he, h1⟩
  exact ⟨he, h1.below (fun _ h => h.elim) (Nat.le_refl _)⟩
theorem m_listB (hM : Many B w0 w D) (hi : D[i]? = some (DISK p d)) :
    Calls Try.prog 18 #[ptr p] w fun e w' => ∃ A c, e = .returned (.slice A (filesOf d).length c) ∧ Below w.heap.size w w' := by
  obtain ⟨F, ⟨hd, ok⟩, hF, hO, hst⟩ := hM.get hi
  refine (list_calls hd ok).mono ?_
  rintro e w' ⟨v, he, h1, h2⟩
  obtain ⟨A, c, rfl⟩ := Kd.R_slice h1
  rw [names_len] at he
  exact ⟨A, c, he, h2⟩
theorem rem_five (n : Int) : -2 ≤ wrap64 ((wrap64 (n.tmod 5 + 5)).tmod 5 - 2) ∧ wrap64 ((wrap64 (n.tmod 5 + 5)).tmod 5 - 2) ≤ 2 := by
  have h1 : -5 < n.tmod 5 ∧ n.tmod 5 < 5 := ⟨Int.lt_tmod_of_pos n (by decide), Int.tmod_lt_of_pos n (by decide)⟩
  generalize n.tmod 5 = a at h1
  have h2 : wrap64 (a + 5) = a + 5 := by unfold wrap64; omega
  rw [h2]
  have h3 : 0 ≤ (a + 5).tmod 5 ∧ (a + 5).tmod 5 < 5 := ⟨Int.tmod_nonneg _ (by omega), Int.tmod_lt_of_pos _ (by decide)⟩
  generalize (a + 5).tmod 5 = b at h3
  unfold wrap64
  omega
theorem m_lit1 (hM : Many B w0 w D) : Many B w0 (w.alloc (.cells #[.int .u8 1] 5)) (BYTES (.slice (some ⟨w.heap.size, 0, none⟩) 1 1) [1] :: D) := (m_lit hM [1] (by decide)).front
end
set_option maxHeartbeats 8000000 in
set_option maxRecDepth 100000 in
theorem full_calls {w : World} {A : Option Addr} {c : Nat} {l : List ByteArray} (n : Int) (hl : Kd.string.C w A l.length l) :
    Calls Try.prog 3 #[.slice A l.length c, .int .i64 n] w fun e w' => e = .returned (.bool true) ∧ Below w.heap.size w w' := by
  have H0 := Lib.hid (Many.start w)
  have HL := Lib.hid hl
  have hll : (l.length : Int) ≤ 9223372036854775807 := by have := hl.2.1; omega
  clear hl
  go_enter Try.func3, Try.ntmps3
  go_upto_region 2 with (go_at_call 9; refine (first_calls _).mono ?_; rintro e w1 ⟨rfl, h1⟩; have H1 := Lib.hid (H0.out.read h1); clear h1)
  by_cases hbig : 300 < l.length
  · have t1 : decide ((300 : Int) < (l.length : Int)) = true := decide_eq_true (by omega)
    go_wp2
    go_ret
    exact ⟨rfl, H1.out.below⟩
  have t1 : decide ((300 : Int) < (l.length : Int)) = false := decide_eq_false (by omega)
  go_upto_region 5 with (go_at_call 10; refine (m_new (by exact H1.out)).mono ?_; rintro e w3 ⟨p, rfl, h⟩; have H3 := Lib.hid h; clear h)
  clear t1
  have H4 := Lib.hid (zero_ref H3.out)
  obtain ⟨q, hq⟩ : ∃ q, q = w3.heap.size := ⟨_, rfl⟩
  go_upto_region 7 with fail
  rw [← hq] at H4 ⊢
  have HS : Hid (Many w.heap.size w (w3.alloc (.cells #[.slice none 0 0, .int .i64 0, .bool false, .string ⟨#[]⟩] 29)) [DISK p St.new, REF q St.new]) := Lib.hid H4.out
  clear H4 H3 hq
  generalize World.alloc _ _ = w4 at HS ⊢
  go_loopw [8, 9] (fun v8 v9 wr => ∃ (k : Nat) (d : St), k ≤ l.length ∧ v8 = .int .i64 k ∧ Hid (Many w.heap.size w wr [DISK p d, REF q d])) (fun v8 _ _ => l.length - (intOf v8).toNat)
  case atStart => exact ⟨0, St.new, Nat.zero_le _, rfl, HS⟩
  case round =>
    obtain ⟨k, d, hk, rfl, HR⟩ := hrel
    have hk2 : k < l.length → wrap64 ((k : Int) + 1) = (k : Int) + 1 := fun h => by unfold wrap64; omega
    by_cases hlt : k < l.length
    · replace hk2 := hk2 hlt
      obtain ⟨ad, rfl, x0⟩ := str_at (Kd.C_below HL.out HR.out.below) k hlt
      obtain ⟨nm, hnm⟩ : ∃ nm, nm = l[k] := ⟨_, rfl⟩
      rw [← hnm] at x0
      clear hnm
      by_cases h40 : 40 < nm.size
      · have t1 : decide ((40 : Int) < (nm.size : Int)) = true := decide_eq_true (by omega)
        go_wp2
        go_roundw
        case rel => exact ⟨k + 1, d, by omega, by first | rfl | (rw [hk2]; rfl), HR⟩
        case measure =>
          first
            | (show l.length - ((k : Int) + 1).toNat < l.length - (k : Int).toNat; omega)
            | (show l.length - (intOf (.int .i64 (wrap64 ((k : Int) + 1)))).toNat < l.length - (intOf (.int .i64 (k : Int))).toNat; rw [hk2]; show l.length - ((k : Int) + 1).toNat < l.length - (k : Int).toNat; omega)
      · have t1 : decide ((40 : Int) < (nm.size : Int)) = false := decide_eq_false (by omega)
        have HN : Hid (nm.size ≤ 140737488351232) := Lib.hid (by omega)
        clear h40
        go_upto_region 10 with fail
        have HD := Lib.hid (HR.out.read (below_drew (Below.refl _ _)))
        obtain ⟨r, hr⟩ : ∃ r, d.create nm = r := ⟨_, rfl⟩
        have HE := Lib.hid hr
        have HC : Hid (∀ W, Below w.heap.size w W → W.cell? (ad.add k) = some (.string nm)) := Lib.hid (fun W hb => by
          obtain ⟨ad', e, y0⟩ := str_at (Kd.C_below HL.out hb) k hlt
          cases e
          obtain ⟨ad2, e2, z0⟩ := str_at (Kd.C_below HL.out HR.out.below) k hlt
          cases e2
          rw [z0] at x0
          injection x0 with x0
          injection x0 with x0
          rw [← x0]
          exact y0)
        have hcd := HC.out _ HD.out.below
        clear hr x0 HR t1
        refine start_ (n := 15) (S := fun w' => w'.cell? (ad.add k) = some (.string nm)) (ds := []) #[false, false, false, false, false, false, false, false, false, false, false, false, false, false, false] (by kernel_rfl) rfl rfl hcd (fun hHeld => ?_)
        refine with_tabW full10T_tab full10T_bits (fun HT_ HW_ => ?_)
        generalize World.drew _ = w6 at HD hHeld ⊢
        clear hcd
        refine pure_ (i := 0) (N := (some 40)) (v := ?_) (a' := ?_) #[true, false, false, false, false, false, false, false, false, false, false, false, false, false, false] rfl rfl (any_of HT_.out (by kernel_rfl)) (fun _ _ _ h => h) (Or.inl ⟨by rfl, ?_⟩) ?_ ?_
        rotate_left
        · intro w'
          go_simp
          with_reducible rfl
        rotate_left
        · simp only [Act.put, List.setIfInBounds_toArray, List.set_cons_zero, List.set_cons_succ, i64_w, i32_w]
          rfl
        refine pure_ (i := 1) (N := (some 41)) (v := ?_) (a' := ?_) #[true, true, false, false, false, false, false, false, false, false, false, false, false, false, false] rfl rfl (any_of HT_.out (by kernel_rfl)) (fun _ _ _ h => h) (Or.inl ⟨by rfl, ?_⟩) ?_ ?_
        rotate_left
        · intro w'
          go_simp
          with_reducible rfl
        rotate_left
        · simp only [Act.put, List.setIfInBounds_toArray, List.set_cons_zero, List.set_cons_succ, i64_w, i32_w]
          rfl
        refine pure_ (i := 2) (N := (some 42)) (v := ?_) (a' := ?_) #[true, true, true, false, false, false, false, false, false, false, false, false, false, false, false] rfl rfl (any_of HT_.out (by kernel_rfl)) (fun _ _ _ h => h) (Or.inl ⟨by rfl, ?_⟩) ?_ ?_
        rotate_left
        · intro w'
          go_simp
          with_reducible rfl
        rotate_left
        · simp only [Act.put, List.setIfInBounds_toArray, List.set_cons_zero, List.set_cons_succ, i64_w, i32_w]
          rfl
        refine pure_ (i := 3) (N := (some 43)) (v := ?_) (a' := ?_) #[true, true, true, true, false, false, false, false, false, false, false, false, false, false, false] rfl rfl (any_of HT_.out (by kernel_rfl)) (fun _ _ _ h => h) (Or.inl ⟨by rfl, ?_⟩) ?_ ?_
        rotate_left
        · intro w'
          go_simp
          with_reducible rfl
        rotate_left
        · simp only [Act.put, List.setIfInBounds_toArray, List.set_cons_zero, List.set_cons_succ, i64_w, i32_w]
          rfl
        refine pure_ (i := 7) (N := (some 47)) (v := ?_) (a' := ?_) #[true, true, true, true, false, false, false, true, false, false, false, false, false, false, false] rfl rfl (any_of HT_.out (by kernel_rfl)) (fun _ _ _ h => h) (Or.inl ⟨by rfl, ?_⟩) ?_ ?_
        rotate_left
        · intro w'
          go_simp
          with_reducible rfl
        rotate_left
        · simp only [Act.put, List.setIfInBounds_toArray, List.set_cons_zero, List.set_cons_succ, i64_w, i32_w]
          rfl
        refine pure_ (i := 8) (N := (some 48)) (v := ?_) (a' := ?_) #[true, true, true, true, false, false, false, true, true, false, false, false, false, false, false] rfl rfl (any_of HT_.out (by kernel_rfl)) (fun _ _ _ h => h) (Or.inl ⟨by rfl, ?_⟩) ?_ ?_
        rotate_left
        · intro w'
          go_simp
          with_reducible rfl
        rotate_left
        · simp only [Act.put, List.setIfInBounds_toArray, List.set_cons_zero, List.set_cons_succ, i64_w, i32_w]
          rfl
        refine pure_ (i := 9) (N := (some 49)) (v := ?_) (a' := ?_) #[true, true, true, true, false, false, false, true, true, true, false, false, false, false, false] rfl rfl (any_of HT_.out (by kernel_rfl)) (fun _ _ _ h => h) (Or.inl ⟨by rfl, ?_⟩) ?_ ?_
        rotate_left
        · intro w'
          go_simp
          with_reducible rfl
        rotate_left
        · simp only [Act.put, List.setIfInBounds_toArray, List.set_cons_zero, List.set_cons_succ, i64_w, i32_w]
          rfl
        refine pure_ (i := 10) (N := (some 50)) (v := ?_) (a' := ?_) #[true, true, true, true, false, false, false, true, true, true, true, false, false, false, false] rfl rfl (any_of HT_.out (by kernel_rfl)) (fun _ _ _ h => h) (Or.inl ⟨by rfl, ?_⟩) ?_ ?_
        rotate_left
        · intro w'
          go_simp
          with_reducible rfl
        rotate_left
        · simp only [Act.put, List.setIfInBounds_toArray, List.set_cons_zero, List.set_cons_succ, i64_w, i32_w]
          rfl
        refine take_ (i := 4) (N := (some 44)) (v := ?_) (a' := ?_) #[true, true, true, true, true, false, false, true, true, true, true, false, false, false, false] rfl rfl (take_ofW HT_.out HW_.out (by kernel_rfl)) (fun _ _ _ h => h) (Or.inl ⟨by rfl, ?_⟩) hHeld ?_ ?_
        rotate_left
        · intro w' s0
          go_simp
          with_reducible rfl
        rotate_left
        · simp only [Act.put, List.setIfInBounds_toArray, List.set_cons_zero, List.set_cons_succ, i64_w, i32_w]
          rfl
        refine take_ (i := 11) (N := (some 51)) (v := ?_) (a' := ?_) #[true, true, true, true, true, false, false, true, true, true, true, true, false, false, false] rfl rfl (take_ofW HT_.out HW_.out (by kernel_rfl)) (fun _ _ _ h => h) (Or.inl ⟨by rfl, ?_⟩) hHeld ?_ ?_
        rotate_left
        · intro w' s0
          go_simp
          with_reducible rfl
        rotate_left
        · simp only [Act.put, List.setIfInBounds_toArray, List.set_cons_zero, List.set_cons_succ, i64_w, i32_w]
          rfl
        refine one_ (i := 5) (N := (some 45)) #[true, true, true, true, true, true, false, true, true, true, true, true, false, false, false] rfl rfl (one_of HT_.out (by kernel_rfl)) (by decide) (fun K hK => ?_)
        refine goes_ Try.func12 (by kernel_rfl) rfl #[ptr p, .string nm] (by rfl) rfl rfl (by (try simp only [List.map_toArray, List.map_cons, List.map_nil]); rfl) ?_
        with_reducible refine (m_create (i := 0) (by exact HD.out) (by with_unfolding_all rfl) nm (by exact HN.out)).mono ?_
        rw [HE.out]
        rintro e w7 ⟨rfl, h7⟩
        refine ⟨_, rfl, ?_⟩
        have H7 := Lib.hid h7
        have g7 := HC.out w7 h7.below
        clear h7
        refine hK.out _ _ g7 (fun hHeld => ?_)
        clear hK K
        refine norm_ (a' := ?_) ?_ ?_
        rotate_left
        · show Act.put _ (some 45) _ = _
          simp only [Act.put, List.setIfInBounds_toArray, List.set_cons_zero, List.set_cons_succ, i64_w, i32_w]
          rfl
        refine one_ (i := 6) (N := (some 46)) #[true, true, true, true, true, true, true, true, true, true, true, true, false, false, false] rfl rfl (one_of HT_.out (by kernel_rfl)) (by decide) (fun K hK => ?_)
        refine goes_ Try.func11 (by kernel_rfl) rfl #[.int .i64 r.1] (by rfl) rfl rfl (by (try simp only [List.map_toArray, List.map_cons, List.map_nil]); rfl) ?_
        with_reducible refine (num_calls _ _).mono ?_
        rintro e w8 ⟨rfl, rfl⟩
        refine ⟨_, rfl, ?_⟩
        refine hK.out _ _ g7 (fun hHeld => ?_)
        clear hK K
        refine norm_ (a' := ?_) ?_ ?_
        rotate_left
        · show Act.put _ (some 46) _ = _
          simp only [Act.put, List.setIfInBounds_toArray, List.set_cons_zero, List.set_cons_succ, i64_w, i32_w]
          rfl
        refine one_ (i := 12) (N := (some 52)) #[true, true, true, true, true, true, true, true, true, true, true, true, true, false, false] rfl rfl (one_of HT_.out (by kernel_rfl)) (by decide) (fun K hK => ?_)
        refine goes_ Try.func13 (by kernel_rfl) rfl #[ptr q, .string nm] (by rfl) rfl rfl (by (try simp only [List.map_toArray, List.map_cons, List.map_nil]); rfl) ?_
        with_reducible refine (mr_create (i := 1) (by exact H7.out) (by with_unfolding_all rfl) nm (by exact HN.out)).mono ?_
        rw [HE.out]
        rintro e w9 ⟨rfl, h9⟩
        refine ⟨_, rfl, ?_⟩
        have H9 := Lib.hid h9
        have g9 := HC.out w9 h9.below
        clear h9
        refine hK.out _ _ g9 (fun hHeld => ?_)
        clear hK K
        refine norm_ (a' := ?_) ?_ ?_
        rotate_left
        · show Act.put _ (some 52) _ = _
          simp only [Act.put, List.setIfInBounds_toArray, List.set_cons_zero, List.set_cons_succ, i64_w, i32_w]
          rfl
        refine pure_ (i := 13) (N := (some 53)) (v := ?_) (a' := ?_) #[true, true, true, true, true, true, true, true, true, true, true, true, true, true, false] rfl rfl (any_of HT_.out (by kernel_rfl)) (fun _ _ _ h => h) (Or.inl ⟨by rfl, ?_⟩) ?_ ?_
        rotate_left
        · intro w'
          go_simp
          with_reducible rfl
        rotate_left
        · simp only [Act.put, List.setIfInBounds_toArray, List.set_cons_zero, List.set_cons_succ, i64_w, i32_w]
          rfl
        refine pure_ (i := 14) (N := (some 9)) (v := ?_) (a' := ?_) #[true, true, true, true, true, true, true, true, true, true, true, true, true, true, true] rfl rfl (any_of HT_.out (by kernel_rfl)) (fun _ _ _ h => h) (Or.inl ⟨by rfl, ?_⟩) ?_ ?_
        rotate_left
        · intro w'
          go_simp
          with_reducible rfl
        rotate_left
        · simp only [Act.put, List.setIfInBounds_toArray, List.set_cons_zero, List.set_cons_succ, i64_w, i32_w]
          rfl
        refine done_ (done_of HT_.out (by kernel_rfl)) ?_
        clear g7 g9 hHeld
        have hdr : decide (r.1 = r.1) = true := decide_eq_true rfl
        go_wp2
        go_roundw
        case rel => exact ⟨k + 1, r.2, by omega, by first | rfl | (rw [hk2]; rfl), H9⟩
        case measure =>
          first
            | (show l.length - ((k : Int) + 1).toNat < l.length - (k : Int).toNat; omega)
            | (show l.length - (intOf (.int .i64 (wrap64 ((k : Int) + 1)))).toNat < l.length - (intOf (.int .i64 (k : Int))).toNat; rw [hk2]; show l.length - ((k : Int) + 1).toNat < l.length - (k : Int).toNat; omega)
    · have hkn : k = l.length := by omega
      subst hkn
      clear hk2 HS H1 H0
      have HOK := Lib.hid (HR.out.ok (i := 0) rfl)
      obtain ⟨A5, c5, hb5, hc5, hC5⟩ := HR.out.rcells (i := 1) rfl
      have y0 := sb_cell hb5 0
      simp at y0
      by_cases hz : (filesOf d).length = 0
      · have t1 : decide (((filesOf d).length : Int) = 0) = true := decide_eq_true (by omega)
        rw [hz] at y0
        go_wp2
        go_ret
        exact ⟨rfl, HR.out.below⟩
      · have t1 : decide (((filesOf d).length : Int) = 0) = false := decide_eq_false (by omega)
        obtain ⟨a5, A6, c6, rfl, z0, -, -, -, -⟩ := files_at hC5 (k := 0) (by omega)
        have ha : a5.add (0 * 3) = a5 := by cases a5; rfl
        rw [ha] at z0
        have hpos : (0 : Int) < ((filesOf d).length : Int) := by omega
        go_upto_region 17 with fail
        obtain ⟨e, he, he0, he1⟩ : ∃ e : Int, wrap64 ((wrap64 (n.tmod 5 + 5)).tmod 5 - 2) = e ∧ -2 ≤ e ∧ e ≤ 2 := by
          refine ⟨_, rfl, ?_, ?_⟩
          · exact (rem_five n).1
          · exact (rem_five n).2
        rw [he]
        obtain ⟨nm, hnm⟩ : ∃ nm, nm = (filesOf d)[0].f0 := ⟨_, rfl⟩
        have hns : nm.size ≤ 140737488351232 := by
          have h1 : (filesOf d)[0] ∈ filesOf d := List.getElem_mem _
          obtain ⟨x, hx, hxe⟩ := List.mem_map.1 h1
          have h2 := okName_size (HOK.out.named x hx)
          rw [hnm, ← hxe]
          show x.nm.size ≤ _
          omega
        rw [← hnm]
        have hw : wrap64 (16777216 + e) = 16777216 + e := by unfold wrap64; omega
        obtain ⟨ys, hys⟩ : ∃ ys : List Int, ys = List.replicate (wrap64 (16777216 + e)).toNat (0 : Int) := ⟨_, rfl⟩
        have hyl : ys.length ≤ 16777218 := by rw [hys, List.length_replicate, hw]; omega
        obtain ⟨r, hr⟩ : ∃ r, d.append nm ys = r := ⟨_, rfl⟩
        obtain ⟨r2, hr2⟩ : ∃ r2, r.2.append nm [1] = r2 := ⟨_, rfl⟩
        have HN := Lib.hid hns
        have HYS := Lib.hid hys
        have HYL := Lib.hid hyl
        have HW := Lib.hid hw
        have HR1 := Lib.hid hr
        have HR2 := Lib.hid hr2
        have HE0 := Lib.hid he0
        have HE1 := Lib.hid he1
        clear hns hys hyl hw hr hr2 he0 he1 he hnm z0 y0 t1 ha hpos hb5 hc5 hC5 hz
        go_upto_region 18 with (at_make; go_must (refine Kd.R_make (Kd.int .u8) (w0 := wr) wr.heap.size 5 rfl rfl 34 (.tmp 75) (.tmp 75) rfl (wrap64 (16777216 + e)) rfl rfl Try.underlying34 (.int .u8 0) 1 info5 rfl (by decide) (by omega) (0 : Int) (ok := fun _ => True) (okp := fun _ => False) rfl (fun _ _ => trivial) trivial ?h0 ?hl (Below.refl _ _) (Nat.le_refl _) ?_); (case h0 => rw [HW.out]; have := HE0.out; omega); (case hl => rw [HW.out]; have := HE1.out; omega); intro v1 w1' ho hb hg hat; rw [← HYS.out] at ho; obtain ⟨A7, c7, e7⟩ := Kd.R_slice ho; subst e7; have Hc7 := Lib.hid (Kd.R_reads' ho).2.1; have H5 := Lib.hid (HR.out.add (t := BYTES (.slice A7 ys.length c7) ys) hb (R_new ho)).front; clear ho hb hg hat)
        go_upto_region 19 with (go_at_call 14; go_must ((with_reducible refine (m_append (i := 1) (by exact H5.out) (by with_unfolding_all rfl) nm (by exact HN.out) A7 c7 ys (fun F hF hO => src_bytes (j := 0) (c := c7) (by decide) (by with_unfolding_all rfl) F hF hO) (by have := HYL.out; omega) (by exact Hc7.out)).mono ?_); rw [HR1.out]; rintro e w6 ⟨rfl, h6⟩; have H6 := Lib.hid h6; clear h6 H5))
        go_upto_region 20 with (go_at_call 15; go_must ((with_reducible refine (mr_append (i := 2) (by exact H6.out) (by with_unfolding_all rfl) nm A7 c7 ys (fun F hF hO => src_bytes (j := 0) (c := c7) (by decide) (by with_unfolding_all rfl) F hF hO) (by have := HYL.out; omega) (by exact Hc7.out)).mono ?_); rw [HR1.out]; rintro e w7 ⟨rfl, h7⟩; have H7 := Lib.hid h7; clear h7 H6))
        go_upto_region 21 with (go_at_call 14; go_must (refine (m_append (i := 2) (m_lit1 (by exact H7.out)) (by with_unfolding_all rfl) nm (by exact HN.out) _ _ [1] (fun F hF hO => src_bytes (j := 0) (c := 1) (by decide) (by with_unfolding_all rfl) F hF hO) (by decide) (by decide)).mono ?_; rw [HR2.out]; rintro e w8 ⟨rfl, h8⟩; have H8 := Lib.hid h8; clear h8 H7))
        go_upto_region 22 with (go_at_call 15; go_must (refine (mr_append (i := 4) (m_lit1 (by exact H8.out)) (by with_unfolding_all rfl) nm _ _ [1] (fun F hF hO => src_bytes (j := 0) (c := 1) (by decide) (by with_unfolding_all rfl) F hF hO) (by decide) (by decide)).mono ?_; rw [HR2.out]; rintro e w9 ⟨rfl, h9⟩; have H9 : Hid (Many w.heap.size w w9 [DISK p r2.2, REF q r2.2]) := Lib.hid h9.tail.tail.tail; clear h9 H8))
        have HD := Lib.hid (H9.out.read (below_drew (Below.refl _ _)))
        obtain ⟨A8, c8, hb8, -, -⟩ := HD.out.rcells (i := 1) rfl
        have y0 := sb_cell hb8 0
        simp at y0
        replace y0 : w9.drew.cell? ⟨q, 0, none⟩ = some (.slice A8 (filesOf r2.2).length c8) := y0
        clear hb8 H9
        refine start_ (n := 29) (S := fun w' => w'.cell? ⟨q, 0, none⟩ = some (.slice A8 (filesOf r2.2).length c8)) (ds := []) #[false, false, false, false, false, false, false, false, false, false, false, false, false, false, false, false, false, false, false, false, false, false, false, false, false, false, false, false, false] (by kernel_rfl) rfl rfl y0 (fun hHeld => ?_)
        refine with_tabW full22T_tab full22T_bits (fun HT_ HW_ => ?_)
        generalize World.drew _ = wd at HD y0 hHeld ⊢
        refine pure_ (i := 0) (N := (some 93)) (v := ?_) (a' := ?_) #[true, false, false, false, false, false, false, false, false, false, false, false, false, false, false, false, false, false, false, false, false, false, false, false, false, false, false, false, false] rfl rfl (any_of HT_.out (by kernel_rfl)) (fun _ _ _ h => h) (Or.inl ⟨by rfl, ?_⟩) ?_ ?_
        rotate_left
        · intro w'
          go_simp
          with_reducible rfl
        rotate_left
        · simp only [Act.put, List.setIfInBounds_toArray, List.set_cons_zero, List.set_cons_succ, i64_w, i32_w]
          rfl
        refine pure_ (i := 2) (N := (some 95)) (v := ?_) (a' := ?_) #[true, false, true, false, false, false, false, false, false, false, false, false, false, false, false, false, false, false, false, false, false, false, false, false, false, false, false, false, false] rfl rfl (any_of HT_.out (by kernel_rfl)) (fun _ _ _ h => h) (Or.inl ⟨by rfl, ?_⟩) ?_ ?_
        rotate_left
        · intro w'
          go_simp
          with_reducible rfl
        rotate_left
        · simp only [Act.put, List.setIfInBounds_toArray, List.set_cons_zero, List.set_cons_succ, i64_w, i32_w]
          rfl
        refine one_ (i := 1) (N := (some 94)) #[true, true, true, false, false, false, false, false, false, false, false, false, false, false, false, false, false, false, false, false, false, false, false, false, false, false, false, false, false] rfl rfl (one_of HT_.out (by kernel_rfl)) (by decide) (fun K hK => ?_)
        refine goes_ Try.func11 (by kernel_rfl) rfl #[.int .i64 r.1] (by rfl) rfl rfl (by (try simp only [List.map_toArray, List.map_cons, List.map_nil]); rfl) ?_
        with_reducible refine (num_calls _ _).mono ?_
        rintro e wa ⟨rfl, rfl⟩
        refine ⟨_, rfl, ?_⟩
        refine hK.out _ _ y0 (fun hHeld => ?_)
        clear hK K
        refine norm_ (a' := ?_) ?_ ?_
        rotate_left
        · show Act.put _ (some 94) _ = _
          simp only [Act.put, List.setIfInBounds_toArray, List.set_cons_zero, List.set_cons_succ, i64_w, i32_w]
          rfl
        refine pure_ (i := 3) (N := (some 96)) (v := ?_) (a' := ?_) #[true, true, true, true, false, false, false, false, false, false, false, false, false, false, false, false, false, false, false, false, false, false, false, false, false, false, false, false, false] rfl rfl (any_of HT_.out (by kernel_rfl)) (fun _ _ _ h => h) (Or.inl ⟨by rfl, ?_⟩) ?_ ?_
        rotate_left
        · intro w'
          go_simp
          with_reducible rfl
        rotate_left
        · simp only [Act.put, List.setIfInBounds_toArray, List.set_cons_zero, List.set_cons_succ, i64_w, i32_w]
          rfl
        refine pure_ (i := 4) (N := (some 97)) (v := ?_) (a' := ?_) #[true, true, true, true, true, false, false, false, false, false, false, false, false, false, false, false, false, false, false, false, false, false, false, false, false, false, false, false, false] rfl rfl (any_of HT_.out (by kernel_rfl)) (fun _ _ _ h => h) (Or.inl ⟨by rfl, ?_⟩) ?_ ?_
        rotate_left
        · intro w'
          go_simp
          with_reducible rfl
        rotate_left
        · simp only [Act.put, List.setIfInBounds_toArray, List.set_cons_zero, List.set_cons_succ, i64_w, i32_w]
          rfl
        refine pure_ (i := 5) (N := (some 98)) (v := ?_) (a' := ?_) #[true, true, true, true, true, true, false, false, false, false, false, false, false, false, false, false, false, false, false, false, false, false, false, false, false, false, false, false, false] rfl rfl (any_of HT_.out (by kernel_rfl)) (fun _ _ _ h => h) (Or.inl ⟨by rfl, ?_⟩) ?_ ?_
        rotate_left
        · intro w'
          go_simp
          with_reducible rfl
        rotate_left
        · simp only [Act.put, List.setIfInBounds_toArray, List.set_cons_zero, List.set_cons_succ, i64_w, i32_w]
          rfl
        refine pure_ (i := 7) (N := (some 100)) (v := ?_) (a' := ?_) #[true, true, true, true, true, true, false, true, false, false, false, false, false, false, false, false, false, false, false, false, false, false, false, false, false, false, false, false, false] rfl rfl (any_of HT_.out (by kernel_rfl)) (fun _ _ _ h => h) (Or.inl ⟨by rfl, ?_⟩) ?_ ?_
        rotate_left
        · intro w'
          go_simp
          with_reducible rfl
        rotate_left
        · simp only [Act.put, List.setIfInBounds_toArray, List.set_cons_zero, List.set_cons_succ, i64_w, i32_w]
          rfl
        refine one_ (i := 6) (N := (some 99)) #[true, true, true, true, true, true, true, true, false, false, false, false, false, false, false, false, false, false, false, false, false, false, false, false, false, false, false, false, false] rfl rfl (one_of HT_.out (by kernel_rfl)) (by decide) (fun K hK => ?_)
        refine goes_ Try.func11 (by kernel_rfl) rfl #[.int .i64 r2.1] (by rfl) rfl rfl (by (try simp only [List.map_toArray, List.map_cons, List.map_nil]); rfl) ?_
        with_reducible refine (num_calls _ _).mono ?_
        rintro e wb ⟨rfl, rfl⟩
        refine ⟨_, rfl, ?_⟩
        refine hK.out _ _ y0 (fun hHeld => ?_)
        clear hK K
        refine norm_ (a' := ?_) ?_ ?_
        rotate_left
        · show Act.put _ (some 99) _ = _
          simp only [Act.put, List.setIfInBounds_toArray, List.set_cons_zero, List.set_cons_succ, i64_w, i32_w]
          rfl
        refine pure_ (i := 8) (N := (some 101)) (v := ?_) (a' := ?_) #[true, true, true, true, true, true, true, true, true, false, false, false, false, false, false, false, false, false, false, false, false, false, false, false, false, false, false, false, false] rfl rfl (any_of HT_.out (by kernel_rfl)) (fun _ _ _ h => h) (Or.inl ⟨by rfl, ?_⟩) ?_ ?_
        rotate_left
        · intro w'
          go_simp
          with_reducible rfl
        rotate_left
        · simp only [Act.put, List.setIfInBounds_toArray, List.set_cons_zero, List.set_cons_succ, i64_w, i32_w]
          rfl
        refine pure_ (i := 9) (N := (some 102)) (v := ?_) (a' := ?_) #[true, true, true, true, true, true, true, true, true, true, false, false, false, false, false, false, false, false, false, false, false, false, false, false, false, false, false, false, false] rfl rfl (any_of HT_.out (by kernel_rfl)) (fun _ _ _ h => h) (Or.inl ⟨by rfl, ?_⟩) ?_ ?_
        rotate_left
        · intro w'
          go_simp
          with_reducible rfl
        rotate_left
        · simp only [Act.put, List.setIfInBounds_toArray, List.set_cons_zero, List.set_cons_succ, i64_w, i32_w]
          rfl
        refine pure_ (i := 10) (N := (some 103)) (v := ?_) (a' := ?_) #[true, true, true, true, true, true, true, true, true, true, true, false, false, false, false, false, false, false, false, false, false, false, false, false, false, false, false, false, false] rfl rfl (any_of HT_.out (by kernel_rfl)) (fun _ _ _ h => h) (Or.inl ⟨by rfl, ?_⟩) ?_ ?_
        rotate_left
        · intro w'
          go_simp
          with_reducible rfl
        rotate_left
        · simp only [Act.put, List.setIfInBounds_toArray, List.set_cons_zero, List.set_cons_succ, i64_w, i32_w]
          rfl
        refine pure_ (i := 11) (N := (some 104)) (v := ?_) (a' := ?_) #[true, true, true, true, true, true, true, true, true, true, true, true, false, false, false, false, false, false, false, false, false, false, false, false, false, false, false, false, false] rfl rfl (any_of HT_.out (by kernel_rfl)) (fun _ _ _ h => h) (Or.inl ⟨by rfl, ?_⟩) ?_ ?_
        rotate_left
        · intro w'
          go_simp
          with_reducible rfl
        rotate_left
        · simp only [Act.put, List.setIfInBounds_toArray, List.set_cons_zero, List.set_cons_succ, i64_w, i32_w]
          rfl
        refine pure_ (i := 13) (N := (some 106)) (v := ?_) (a' := ?_) #[true, true, true, true, true, true, true, true, true, true, true, true, false, true, false, false, false, false, false, false, false, false, false, false, false, false, false, false, false] rfl rfl (any_of HT_.out (by kernel_rfl)) (fun _ _ _ h => h) (Or.inl ⟨by rfl, ?_⟩) ?_ ?_
        rotate_left
        · intro w'
          go_simp
          with_reducible rfl
        rotate_left
        · simp only [Act.put, List.setIfInBounds_toArray, List.set_cons_zero, List.set_cons_succ, i64_w, i32_w]
          rfl
        refine one_ (i := 12) (N := (some 105)) #[true, true, true, true, true, true, true, true, true, true, true, true, true, true, false, false, false, false, false, false, false, false, false, false, false, false, false, false, false] rfl rfl (one_of HT_.out (by kernel_rfl)) (by decide) (fun K hK => ?_)
        refine goes_ Try.func16 (by kernel_rfl) rfl #[ptr p] (by rfl) rfl rfl (by (try simp only [List.map_toArray, List.map_cons, List.map_nil]); rfl) ?_
        with_reducible refine (m_sizeB (p := p) (i := 0) (by exact HD.out) (by with_unfolding_all rfl)).mono ?_
        rintro e wc ⟨rfl, hbc⟩
        refine ⟨_, rfl, ?_⟩
        have HC := Lib.hid (HD.out.read hbc)
        have yc := (hbc.cell (World.block_lt_of_cell? _ _ y0)).trans y0
        clear hbc
        refine hK.out _ _ yc (fun hHeld => ?_)
        clear hK K
        refine norm_ (a' := ?_) ?_ ?_
        rotate_left
        · show Act.put _ (some 105) _ = _
          simp only [Act.put, List.setIfInBounds_toArray, List.set_cons_zero, List.set_cons_succ, i64_w, i32_w]
          rfl
        refine one_ (i := 14) (N := (some 107)) #[true, true, true, true, true, true, true, true, true, true, true, true, true, true, true, false, false, false, false, false, false, false, false, false, false, false, false, false, false] rfl rfl (one_of HT_.out (by kernel_rfl)) (by decide) (fun K hK => ?_)
        refine goes_ Try.func17 (by kernel_rfl) rfl #[ptr q] (by rfl) rfl rfl (by (try simp only [List.map_toArray, List.map_cons, List.map_nil]); rfl) ?_
        with_reducible refine (mr_size (p := q) (i := 1) (by exact HC.out) (by with_unfolding_all rfl)).mono ?_
        rintro e wd2 ⟨rfl, rfl⟩
        refine ⟨_, rfl, ?_⟩
        refine hK.out _ _ yc (fun hHeld => ?_)
        clear hK K
        refine norm_ (a' := ?_) ?_ ?_
        rotate_left
        · show Act.put _ (some 107) _ = _
          simp only [Act.put, List.setIfInBounds_toArray, List.set_cons_zero, List.set_cons_succ, i64_w, i32_w]
          rfl
        refine pure_ (i := 15) (N := (some 108)) (v := ?_) (a' := ?_) #[true, true, true, true, true, true, true, true, true, true, true, true, true, true, true, true, false, false, false, false, false, false, false, false, false, false, false, false, false] rfl rfl (any_of HT_.out (by kernel_rfl)) (fun _ _ _ h => h) (Or.inl ⟨by rfl, ?_⟩) ?_ ?_
        rotate_left
        · intro w'
          go_simp
          with_reducible rfl
        rotate_left
        · simp only [Act.put, List.setIfInBounds_toArray, List.set_cons_zero, List.set_cons_succ, i64_w, i32_w]
          rfl
        refine pure_ (i := 16) (N := (some 109)) (v := ?_) (a' := ?_) #[true, true, true, true, true, true, true, true, true, true, true, true, true, true, true, true, true, false, false, false, false, false, false, false, false, false, false, false, false] rfl rfl (any_of HT_.out (by kernel_rfl)) (fun _ _ _ h => h) (Or.inl ⟨by rfl, ?_⟩) ?_ ?_
        rotate_left
        · intro w'
          go_simp
          with_reducible rfl
        rotate_left
        · simp only [Act.put, List.setIfInBounds_toArray, List.set_cons_zero, List.set_cons_succ, i64_w, i32_w]
          rfl
        refine pure_ (i := 17) (N := (some 110)) (v := ?_) (a' := ?_) #[true, true, true, true, true, true, true, true, true, true, true, true, true, true, true, true, true, true, false, false, false, false, false, false, false, false, false, false, false] rfl rfl (any_of HT_.out (by kernel_rfl)) (fun _ _ _ h => h) (Or.inl ⟨by rfl, ?_⟩) ?_ ?_
        rotate_left
        · intro w'
          go_simp
          with_reducible rfl
        rotate_left
        · simp only [Act.put, List.setIfInBounds_toArray, List.set_cons_zero, List.set_cons_succ, i64_w, i32_w]
          rfl
        refine pure_ (i := 18) (N := (some 111)) (v := ?_) (a' := ?_) #[true, true, true, true, true, true, true, true, true, true, true, true, true, true, true, true, true, true, true, false, false, false, false, false, false, false, false, false, false] rfl rfl (any_of HT_.out (by kernel_rfl)) (fun _ _ _ h => h) (Or.inl ⟨by rfl, ?_⟩) ?_ ?_
        rotate_left
        · intro w'
          go_simp
          with_reducible rfl
        rotate_left
        · simp only [Act.put, List.setIfInBounds_toArray, List.set_cons_zero, List.set_cons_succ, i64_w, i32_w]
          rfl
        refine pure_ (i := 21) (N := (some 114)) (v := ?_) (a' := ?_) #[true, true, true, true, true, true, true, true, true, true, true, true, true, true, true, true, true, true, true, false, false, true, false, false, false, false, false, false, false] rfl rfl (any_of HT_.out (by kernel_rfl)) (fun _ _ _ h => h) (Or.inl ⟨by rfl, ?_⟩) ?_ ?_
        rotate_left
        · intro w'
          go_simp
          with_reducible rfl
        rotate_left
        · simp only [Act.put, List.setIfInBounds_toArray, List.set_cons_zero, List.set_cons_succ, i64_w, i32_w]
          rfl
        refine pure_ (i := 22) (N := (some 115)) (v := ?_) (a' := ?_) #[true, true, true, true, true, true, true, true, true, true, true, true, true, true, true, true, true, true, true, false, false, true, true, false, false, false, false, false, false] rfl rfl (any_of HT_.out (by kernel_rfl)) (fun _ _ _ h => h) (Or.inl ⟨by rfl, ?_⟩) ?_ ?_
        rotate_left
        · intro w'
          go_simp
          with_reducible rfl
        rotate_left
        · simp only [Act.put, List.setIfInBounds_toArray, List.set_cons_zero, List.set_cons_succ, i64_w, i32_w]
          rfl
        refine pure_ (i := 23) (N := (some 116)) (v := ?_) (a' := ?_) #[true, true, true, true, true, true, true, true, true, true, true, true, true, true, true, true, true, true, true, false, false, true, true, true, false, false, false, false, false] rfl rfl (any_of HT_.out (by kernel_rfl)) (fun _ _ _ h => h) (Or.inl ⟨by rfl, ?_⟩) ?_ ?_
        rotate_left
        · intro w'
          go_simp
          with_reducible rfl
        rotate_left
        · simp only [Act.put, List.setIfInBounds_toArray, List.set_cons_zero, List.set_cons_succ, i64_w, i32_w]
          rfl
        refine take_ (i := 24) (N := (some 117)) (v := ?_) (a' := ?_) #[true, true, true, true, true, true, true, true, true, true, true, true, true, true, true, true, true, true, true, false, false, true, true, true, true, false, false, false, false] rfl rfl (take_ofW HT_.out HW_.out (by kernel_rfl)) (fun _ _ _ h => h) (Or.inl ⟨by rfl, ?_⟩) hHeld ?_ ?_
        rotate_left
        · intro w' s0
          go_simp
          with_reducible rfl
        rotate_left
        · simp only [Act.put, List.setIfInBounds_toArray, List.set_cons_zero, List.set_cons_succ, i64_w, i32_w]
          rfl
        refine pure_ (i := 25) (N := (some 118)) (v := ?_) (a' := ?_) #[true, true, true, true, true, true, true, true, true, true, true, true, true, true, true, true, true, true, true, false, false, true, true, true, true, true, false, false, false] rfl rfl (any_of HT_.out (by kernel_rfl)) (fun _ _ _ h => h) (Or.inl ⟨by rfl, ?_⟩) ?_ ?_
        rotate_left
        · intro w'
          go_simp
          with_reducible rfl
        rotate_left
        · simp only [Act.put, List.setIfInBounds_toArray, List.set_cons_zero, List.set_cons_succ, i64_w, i32_w]
          rfl
        refine one_ (i := 19) (N := (some 112)) #[true, true, true, true, true, true, true, true, true, true, true, true, true, true, true, true, true, true, true, true, false, true, true, true, true, true, false, false, false] rfl rfl (one_of HT_.out (by kernel_rfl)) (by decide) (fun K hK => ?_)
        refine goes_ Try.func18 (by kernel_rfl) rfl #[ptr p] (by rfl) rfl rfl (by (try simp only [List.map_toArray, List.map_cons, List.map_nil]); rfl) ?_
        with_reducible refine (m_listB (p := p) (i := 0) (by exact HC.out) (by with_unfolding_all rfl)).mono ?_
        rintro e we ⟨A9, c9, rfl, hbe⟩
        refine ⟨_, rfl, ?_⟩
        have HE := Lib.hid (HC.out.read hbe)
        have ye := (hbe.cell (World.block_lt_of_cell? _ _ yc)).trans yc
        clear hbe
        refine hK.out _ _ ye (fun hHeld => ?_)
        clear hK K
        refine norm_ (a' := ?_) ?_ ?_
        rotate_left
        · show Act.put _ (some 112) _ = _
          simp only [Act.put, List.setIfInBounds_toArray, List.set_cons_zero, List.set_cons_succ, i64_w, i32_w]
          rfl
        refine pure_ (i := 20) (N := (some 113)) (v := ?_) (a' := ?_) #[true, true, true, true, true, true, true, true, true, true, true, true, true, true, true, true, true, true, true, true, true, true, true, true, true, true, false, false, false] rfl rfl (any_of HT_.out (by kernel_rfl)) (fun _ _ _ h => h) (Or.inl ⟨by rfl, ?_⟩) ?_ ?_
        rotate_left
        · intro w'
          go_simp
          with_reducible rfl
        rotate_left
        · simp only [Act.put, List.setIfInBounds_toArray, List.set_cons_zero, List.set_cons_succ, i64_w, i32_w]
          rfl
        refine pure_ (i := 26) (N := (some 119)) (v := ?_) (a' := ?_) #[true, true, true, true, true, true, true, true, true, true, true, true, true, true, true, true, true, true, true, true, true, true, true, true, true, true, true, false, false] rfl rfl (any_of HT_.out (by kernel_rfl)) (fun _ _ _ h => h) (Or.inl ⟨by rfl, ?_⟩) ?_ ?_
        rotate_left
        · intro w'
          go_simp
          with_reducible rfl
        rotate_left
        · simp only [Act.put, List.setIfInBounds_toArray, List.set_cons_zero, List.set_cons_succ, i64_w, i32_w]
          rfl
        refine pure_ (i := 27) (N := (some 120)) (v := ?_) (a' := ?_) #[true, true, true, true, true, true, true, true, true, true, true, true, true, true, true, true, true, true, true, true, true, true, true, true, true, true, true, true, false] rfl rfl (any_of HT_.out (by kernel_rfl)) (fun _ _ _ h => h) (Or.inl ⟨by rfl, ?_⟩) ?_ ?_
        rotate_left
        · intro w'
          go_simp
          with_reducible rfl
        rotate_left
        · simp only [Act.put, List.setIfInBounds_toArray, List.set_cons_zero, List.set_cons_succ, i64_w, i32_w]
          rfl
        refine pure_ (i := 28) (N := (some 4)) (v := ?_) (a' := ?_) #[true, true, true, true, true, true, true, true, true, true, true, true, true, true, true, true, true, true, true, true, true, true, true, true, true, true, true, true, true] rfl rfl (any_of HT_.out (by kernel_rfl)) (fun _ _ _ h => h) (Or.inl ⟨by rfl, ?_⟩) ?_ ?_
        rotate_left
        · intro w'
          go_simp
          with_reducible rfl
        rotate_left
        · simp only [Act.put, List.setIfInBounds_toArray, List.set_cons_zero, List.set_cons_succ, i64_w, i32_w]
          rfl
        refine done_ (done_of HT_.out (by kernel_rfl)) ?_
        clear hHeld y0 yc ye
        go_wp2
        go_ret
        exact ⟨by simp, HE.out.below⟩
end Go.Proofs.Ytflajlnknimjaaa.Dk
