/- DiskTwo: the walk of the law. -/
import Derived.Test.YtflajlnknimjaaaDkV
namespace Go.Proofs.Ytflajlnknimjaaa.Dk
open Go.RowKit Go.Maps Go.Proofs.YtflajlnknimjaaaW.PrintWords Go.Proofs.YtflajlnknimjaaaW.PrintMore Go.Proofs.Ytflajlnknimjaaa.Syn Go.Proofs.Ytflajlnknimjaaa.PDiskLoads

theorem made_ok (l : List SO) (hl : ∀ x ∈ l, OpFits x) : (made l).Ok := by
  have : ∀ (l : List SO) (d : St), d.Ok → (∀ x ∈ l, OpFits x) → (l.foldl (fun d x => (told d x).2) d).Ok := by
    intro l
    induction l with
    | nil => exact fun d h _ => h
    | cons x r ih =>
      intro d h hf
      refine ih _ ?_ (fun y hy => hf y (List.mem_cons_of_mem _ hy))
      show (told d x).2.Ok
      unfold told
      split
      · exact create_ok h _
      split
      · exact append_ok h _ _
      split
      · exact sync_ok h _
      split
      · exact cut_ok h _ _
      split
      · exact rename_ok h _ _
      split
      · exact remove_ok h _
      split
      · exact arm_ok h (hf x List.mem_cons_self).n
      split
      · exact crash_ok h _
      · exact h
  exact this l St.new new_ok hl
theorem total_mem {l : List Fl} {f : Fl} (h : f ∈ l) : f.dat.length ≤ total l := by
  induction l with
  | nil => cases h
  | cons y r ih =>
    unfold total at ih ⊢
    rw [List.map_cons, List.sum_cons]
    rcases List.mem_cons.1 h with rfl | h
    · omega
    · have := ih h
      omega
theorem files_len {d : St} (ok : d.Ok) : (filesOf d).length ≤ 1099511627776 ∧ ∀ x ∈ filesOf d, x.f1.length ≤ 1099511627776 := by
  refine ⟨?_, fun x hx => ?_⟩
  · have := ok.cnt
    simp [filesOf]
    omega
  · obtain ⟨f, hf, rfl⟩ := List.mem_map.1 hx
    have h1 := total_mem hf
    have h2 := ok.tot
    show f.dat.length ≤ _
    omega
theorem made_take {l : List SO} {k : Nat} (h : k < l.length) : (told (made (l.take k)) l[k]).2 = made (l.take (k + 1)) := by rw [← made_snoc, ← List.take_succ_eq_append_getElem h]
theorem made_end {l : List SO} {k : Nat} (h : ¬ k < l.length) : made (l.take k) = made (l.take (k + 1)) := by rw [List.take_of_length_le (by omega), List.take_of_length_le (by omega)]
section
variable {B i j : Nat} {w0 w : World} {D : List Thing} {p : Nat} {d : St}
/-- The files of a disk, in a slice that can be read. -/
theorem m_files2 (hM : Many B w0 w D) (hi : D[i]? = some (DISK p d)) :
    Calls Try.prog 21 #[ptr p] w fun e w' => ∃ A c, e = .returned (.slice A (filesOf d).length c) ∧ Many B w0 w' (D ++ [FILES (.slice A (filesOf d).length c) (filesOf d)]) := by
  refine (m_files hM hi).mono ?_
  rintro e w' ⟨v, he, h⟩
  obtain ⟨A, c, hv, _, _⟩ := h.files (i := D.length) (get_last _ _)
  subst hv
  exact ⟨A, c, he, h⟩
theorem m_same {A A' : Option Addr} {n n' c c' : Nat} {l r : List SF} (hM : Many B w0 w D) (hi : D[i]? = some (FILES (.slice A n c) l)) (hj : D[j]? = some (FILES (.slice A' n' c') r)) (hl : l.length ≤ 1099511627776 ∧ ∀ x ∈ l, x.f1.length ≤ 1099511627776) :
    Calls Try.prog 25 #[.slice A n c, .slice A' n' c'] w fun e w' => e = .returned (.bool (decide (l = r))) ∧ Many B w0 w' D := by
  obtain ⟨A1, c1, e1, h1, h2⟩ := hM.files hi
  obtain ⟨A2, c2, e2, h3, h4⟩ := hM.files hj
  cases e1
  cases e2
  refine (same_calls h2 h1 h4 h3 hl.1 hl.2).mono ?_
  rintro e w' ⟨he, hb⟩
  exact ⟨he, hM.read hb⟩
theorem m_same1 {A A' : Option Addr} {n n' c c' : Nat} {l : List SF} (hM : Many B w0 w D) (hi : D[i]? = some (FILES (.slice A n c) l)) (hj : D[j]? = some (FILES (.slice A' n' c') l)) (hl : l.length ≤ 1099511627776 ∧ ∀ x ∈ l, x.f1.length ≤ 1099511627776) :
    Calls Try.prog 25 #[.slice A n c, .slice A' n' c'] w fun e w' => e = .returned (.bool true) ∧ Many B w0 w' D := by
  refine (m_same hM hi hj hl).mono ?_
  rintro e w' ⟨he, h⟩
  rw [decide_eq_true rfl] at he
  exact ⟨he, h⟩
theorem Many.ok_files (hM : Many B w0 w D) (hi : D[i]? = some (DISK p d)) : (filesOf d).length ≤ 1099511627776 ∧ ∀ x ∈ filesOf d, x.f1.length ≤ 1099511627776 := files_len (hM.ok hi)
end

set_option maxHeartbeats 4000000 in
set_option maxRecDepth 100000 in
theorem two_calls {w : World} {A A' : Option Addr} {c c' : Nat} {l m : List SO} (hl : Ops w A l) (hlc : l.length ≤ c) (hm : Ops w A' m) (hmc : m.length ≤ c') :
    Calls Try.prog 5 #[.slice A l.length c, .slice A' m.length c'] w fun e w' => e = .returned (.bool true) ∧ Below w.heap.size w w' := by
  have H0 := Lib.hid (Many.start w)
  have HL := Lib.hid hl
  have HM := Lib.hid hm
  have HLC := Lib.hid hlc
  have HMC := Lib.hid hmc
  have hll := hl.len
  have hml := hm.len
  clear hl hm hlc hmc
  go_enter Try.func5, Try.ntmps5
  go_upto_region 2 with (go_at_call 9; refine (first_calls _).mono ?_; rintro e w1 ⟨rfl, h1⟩; have H1 := Lib.hid (H0.out.read h1); clear h1)
  go_wp2_with (first
    | (go_at_call 19; refine (m_few (by exact H2.out) (by exact HM.out) (by exact HMC.out)).mono ?_; rintro e w3 ⟨b3, rfl, h3⟩; have H3 := Lib.hid h3; clear h3)
    | (go_at_call 19; refine (m_few (by exact H1.out) (by exact HL.out) (by exact HLC.out)).mono ?_; rintro e w2 ⟨b2, rfl, h2⟩; have H2 := Lib.hid h2; clear h2)
    | (go_at_call 10; refine (m_new (by exact H4.out)).mono ?_; rintro e w5 ⟨q, rfl, h5⟩; have H5 := Lib.hid h5; clear h5)
    | (go_at_call 10; refine (m_new (by exact H3.out)).mono ?_; rintro e w4 ⟨p, rfl, h4⟩; have H4 := Lib.hid h4; clear h4))
  all_goals (first | (go_ret; first | exact ⟨rfl, H3.out.below⟩ | exact ⟨rfl, H2.out.below⟩) | skip)
  go_loopw [9] (fun v9 wr => ∃ k : Nat, k ≤ 1048576 ∧ k ≤ max l.length m.length ∧ v9 = .int .i64 k ∧ Hid (Many w.heap.size w wr [DISK p (made (l.take k)), DISK q (made (m.take k))])) (fun v9 _ => max l.length m.length - (intOf v9).toNat)
  case atStart => exact ⟨0, by omega, by omega, rfl, H5⟩
  case round =>
    obtain ⟨k, hk1, hkm, rfl, HR⟩ := hrel
    by_cases ha : k < l.length
    · by_cases hb : k < m.length
      · obtain ⟨adx, Ax, cx, rfl, hcellx, hlx, hCx⟩ := HL.out.at k ha
        obtain ⟨x0, x1, x2, x3, x4⟩ := hcellx wr HR.out.below
        have hfitx := HL.out.fits _ (List.getElem_mem ha)
        have hmadex := made_take ha
        obtain ⟨x, hx⟩ : ∃ x, x = l[k] := ⟨_, rfl⟩
        rw [← hx] at hcellx x0 x1 x2 x3 x4 hlx hCx hfitx hmadex
        have HFitx := Lib.hid hfitx
        have HL4x := Lib.hid hlx
        have HC4x := Lib.hid hCx
        have HMadex := Lib.hid hmadex
        have HCellx := Lib.hid hcellx
        clear hcellx hx hfitx hlx hCx hmadex
        obtain ⟨ady, Ay, cy, rfl, hcelly, hly, hCy⟩ := HM.out.at k hb
        obtain ⟨y0, y1, y2, y3, y4⟩ := hcelly wr HR.out.below
        have hfity := HM.out.fits _ (List.getElem_mem hb)
        have hmadey := made_take hb
        obtain ⟨y, hy⟩ : ∃ x, x = m[k] := ⟨_, rfl⟩
        rw [← hy] at hcelly y0 y1 y2 y3 y4 hly hCy hfity hmadey
        have HFity := Lib.hid hfity
        have HL4y := Lib.hid hly
        have HC4y := Lib.hid hCy
        have HMadey := Lib.hid hmadey
        have HCelly := Lib.hid hcelly
        clear hcelly hy hfity hly hCy hmadey
        have hk2 : wrap64 ((k : Int) + 1) = (k : Int) + 1 := by unfold wrap64; omega
        go_upto_region 12 with (go_at_call 26; refine (m_told (i := 0) (by exact HR.out) rfl x (by exact HFitx.out) Ax cx (by exact HL4x.out) (by exact HC4x.out)).mono ?_; rintro e wx ⟨rfl, h⟩; have HX := Lib.hid h; clear h)
        clear y0 y1 y2 y3 y4
        obtain ⟨y0, y1, y2, y3, y4⟩ := HCelly.out wx HX.out.below
        go_wp2_with (go_at_call 26; refine (m_told (i := 1) (by exact HX.out) rfl y (by exact HFity.out) Ay cy (by exact HL4y.out) (by exact HC4y.out)).mono ?_; rintro e wy ⟨rfl, h⟩; have HY := Lib.hid h; clear h)
        go_roundw
        case rel =>
          refine ⟨k + 1, by omega, by omega, by first | rfl | (rw [hk2]; rfl), ?_⟩
          have := HY.out
          simp only [List.set_cons_zero, List.set_cons_succ, HMadex.out, HMadey.out] at this
          exact Lib.hid this
        case measure =>
          first
            | (show max l.length m.length - ((k : Int) + 1).toNat < max l.length m.length - (k : Int).toNat; omega)
            | (show max l.length m.length - (intOf (.int .i64 (wrap64 ((k : Int) + 1)))).toNat < max l.length m.length - (intOf (.int .i64 (k : Int))).toNat; rw [hk2]; show max l.length m.length - ((k : Int) + 1).toNat < max l.length m.length - (k : Int).toNat; omega)
      · obtain ⟨adx, Ax, cx, rfl, hcellx, hlx, hCx⟩ := HL.out.at k ha
        obtain ⟨x0, x1, x2, x3, x4⟩ := hcellx wr HR.out.below
        have hfitx := HL.out.fits _ (List.getElem_mem ha)
        have hmadex := made_take ha
        obtain ⟨x, hx⟩ : ∃ x, x = l[k] := ⟨_, rfl⟩
        rw [← hx] at hcellx x0 x1 x2 x3 x4 hlx hCx hfitx hmadex
        have HFitx := Lib.hid hfitx
        have HL4x := Lib.hid hlx
        have HC4x := Lib.hid hCx
        have HMadex := Lib.hid hmadex
        have HCellx := Lib.hid hcellx
        clear hcellx hx hfitx hlx hCx hmadex
        have hk2 : wrap64 ((k : Int) + 1) = (k : Int) + 1 := by unfold wrap64; omega
        have HEnd := Lib.hid (made_end hb)
        go_wp2_with (go_at_call 26; refine (m_told (i := 0) (by exact HR.out) rfl x (by exact HFitx.out) Ax cx (by exact HL4x.out) (by exact HC4x.out)).mono ?_; rintro e wx ⟨rfl, h⟩; have HX := Lib.hid h; clear h)
        go_roundw
        case rel =>
          refine ⟨k + 1, by omega, by omega, by first | rfl | (rw [hk2]; rfl), ?_⟩
          have := HX.out
          simp only [List.set_cons_zero, List.set_cons_succ, HMadex.out, HEnd.out] at this
          exact Lib.hid this
        case measure =>
          first
            | (show max l.length m.length - ((k : Int) + 1).toNat < max l.length m.length - (k : Int).toNat; omega)
            | (show max l.length m.length - (intOf (.int .i64 (wrap64 ((k : Int) + 1)))).toNat < max l.length m.length - (intOf (.int .i64 (k : Int))).toNat; rw [hk2]; show max l.length m.length - ((k : Int) + 1).toNat < max l.length m.length - (k : Int).toNat; omega)
    · by_cases hb : k < m.length
      · obtain ⟨ady, Ay, cy, rfl, hcelly, hly, hCy⟩ := HM.out.at k hb
        obtain ⟨y0, y1, y2, y3, y4⟩ := hcelly wr HR.out.below
        have hfity := HM.out.fits _ (List.getElem_mem hb)
        have hmadey := made_take hb
        obtain ⟨y, hy⟩ : ∃ x, x = m[k] := ⟨_, rfl⟩
        rw [← hy] at hcelly y0 y1 y2 y3 y4 hly hCy hfity hmadey
        have HFity := Lib.hid hfity
        have HL4y := Lib.hid hly
        have HC4y := Lib.hid hCy
        have HMadey := Lib.hid hmadey
        have HCelly := Lib.hid hcelly
        clear hcelly hy hfity hly hCy hmadey
        have hk2 : wrap64 ((k : Int) + 1) = (k : Int) + 1 := by unfold wrap64; omega
        have HEnd := Lib.hid (made_end ha)
        go_wp2_with (go_at_call 26; refine (m_told (i := 1) (by exact HR.out) rfl y (by exact HFity.out) Ay cy (by exact HL4y.out) (by exact HC4y.out)).mono ?_; rintro e wy ⟨rfl, h⟩; have HY := Lib.hid h; clear h)
        go_roundw
        case rel =>
          refine ⟨k + 1, by omega, by omega, by first | rfl | (rw [hk2]; rfl), ?_⟩
          have := HY.out
          simp only [List.set_cons_zero, List.set_cons_succ, HMadey.out, HEnd.out] at this
          exact Lib.hid this
        case measure =>
          first
            | (show max l.length m.length - ((k : Int) + 1).toNat < max l.length m.length - (k : Int).toNat; omega)
            | (show max l.length m.length - (intOf (.int .i64 (wrap64 ((k : Int) + 1)))).toNat < max l.length m.length - (intOf (.int .i64 (k : Int))).toNat; rw [hk2]; show max l.length m.length - ((k : Int) + 1).toNat < max l.length m.length - (k : Int).toNat; omega)
      · have HE := HR.out
        rw [List.take_of_length_le (by omega), List.take_of_length_le (by omega)] at HE
        have HF := Lib.hid HE
        clear HE HR
        go_upto_region 15 with (go_at_call 20; with_reducible refine (m_made (by exact HF.out) (by exact HL.out)).mono ?_; rintro e wa ⟨r, rfl, h⟩; have HF1 := Lib.hid h; clear h)
        go_upto_region 16 with (go_at_call 20; with_reducible refine (m_made (by exact HF1.out) (by exact HM.out)).mono ?_; rintro e wb ⟨s, rfl, h⟩; have HF2 := Lib.hid h; clear h)
        go_upto_region 17 with (first
          | (go_at_call 21; with_reducible refine (m_files2 (p := p) (i := 0) (by exact HF2.out) (by with_unfolding_all rfl)).mono ?_; rintro e wc ⟨A3, c3, rfl, h⟩; have HF3 := Lib.hid h; clear h)
          | (go_at_call 21; with_reducible refine (m_files2 (p := r) (i := 2) (by exact HF3.out) (by with_unfolding_all rfl)).mono ?_; rintro e wd ⟨A4, c4, rfl, h⟩; have HF4 := Lib.hid h; clear h)
          | (go_at_call 25; with_reducible refine (m_same1 (i := 4) (j := 5) (by exact HF4.out) (by with_unfolding_all rfl) (by with_unfolding_all rfl) (by exact HF4.out.ok_files (i := 0) (by with_unfolding_all rfl))).mono ?_; rintro e we ⟨rfl, h⟩; have HF5 := Lib.hid h; clear h)
          | (go_at_call 23; with_reducible refine (m_down (p := p) (i := 0) (by exact HF5.out) (by with_unfolding_all rfl)).mono ?_; rintro e wf ⟨rfl, h⟩; have HF6 := Lib.hid h; clear h)
          | (go_at_call 23; with_reducible refine (m_down (p := r) (i := 2) (by exact HF6.out) (by with_unfolding_all rfl)).mono ?_; rintro e wg ⟨rfl, h⟩; have HF7 := Lib.hid h; clear h))
        go_upto_region 18 with (first
          | (go_at_call 21; with_reducible refine (m_files2 (p := q) (i := 1) (by exact HF7.out) (by with_unfolding_all rfl)).mono ?_; rintro e wh ⟨A8, c8, rfl, h⟩; have HF8 := Lib.hid h; clear h)
          | (go_at_call 21; with_reducible refine (m_files2 (p := s) (i := 3) (by exact HF8.out) (by with_unfolding_all rfl)).mono ?_; rintro e wi ⟨A9, c9, rfl, h⟩; have HF9 := Lib.hid h; clear h)
          | (go_at_call 25; with_reducible refine (m_same1 (i := 6) (j := 7) (by exact HF9.out) (by with_unfolding_all rfl) (by with_unfolding_all rfl) (by exact HF9.out.ok_files (i := 1) (by with_unfolding_all rfl))).mono ?_; rintro e wj ⟨rfl, h⟩; have HG1 := Lib.hid h; clear h)
          | (go_at_call 23; with_reducible refine (m_down (p := q) (i := 1) (by exact HG1.out) (by with_unfolding_all rfl)).mono ?_; rintro e wk ⟨rfl, h⟩; have HG2 := Lib.hid h; clear h)
          | (go_at_call 23; with_reducible refine (m_down (p := s) (i := 3) (by exact HG2.out) (by with_unfolding_all rfl)).mono ?_; rintro e wl ⟨rfl, h⟩; have HG3 := Lib.hid h; clear h))
        go_upto_region 19 with (go_at_call 22; with_reducible refine (m_crash (p := p) (i := 0) (by exact HG3.out) (by with_unfolding_all rfl) 3).mono ?_; rintro e wm ⟨rfl, h⟩; have HG4 := Lib.hid h; clear h)
        go_upto_region 20 with (go_at_call 22; with_reducible refine (m_crash (p := r) (i := 2) (by exact HG4.out) (by with_unfolding_all rfl) 3).mono ?_; rintro e wn ⟨rfl, h⟩; have HG5 := Lib.hid h; clear h)
        go_wp2_with (first
          | (go_at_call 21; with_reducible refine (m_files2 (p := p) (i := 0) (by exact HG5.out) (by with_unfolding_all rfl)).mono ?_; rintro e wo ⟨A6, c6, rfl, h⟩; have HG6 := Lib.hid h; clear h)
          | (go_at_call 21; with_reducible refine (m_files2 (p := r) (i := 2) (by exact HG6.out) (by with_unfolding_all rfl)).mono ?_; rintro e wq ⟨A7, c7, rfl, h⟩; have HG7 := Lib.hid h; clear h)
          | (go_at_call 25; with_reducible refine (m_same1 (i := 8) (j := 9) (by exact HG7.out) (by with_unfolding_all rfl) (by with_unfolding_all rfl) (by exact HG7.out.ok_files (i := 0) (by with_unfolding_all rfl))).mono ?_; rintro e wt ⟨rfl, h⟩; have HG8 := Lib.hid h; clear h))
        go_ret
        exact ⟨rfl, HG8.out.below⟩
end Go.Proofs.Ytflajlnknimjaaa.Dk
