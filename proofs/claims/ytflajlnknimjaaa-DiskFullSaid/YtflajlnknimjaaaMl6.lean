/- Merged: RfN, RfS. -/
import Derived.Test.YtflajlnknimjaaaMl5
import Derived.Test.YtflajlnknimjaaaWTab
set_option linter.unusedVariables false
set_option linter.unusedSimpArgs false
/- The reference's Rename. -/
namespace Go.Proofs.Ytflajlnknimjaaa.Dk
open Go.RowKit Go.Maps Go.Proofs.YtflajlnknimjaaaW.PrintWords Go.Proofs.YtflajlnknimjaaaW.PrintMore Go.Proofs.Ytflajlnknimjaaa.Syn Go.Proofs.Ytflajlnknimjaaa.PDiskLoads
set_option linter.unusedVariables false
set_option linter.unusedSimpArgs false

theorem era_gone {α : Type} {key : α → ByteArray} {nm : ByteArray} {l : List α} (h : look key nm l = none) : era key nm l = l := era_none (look_none.1 h)
section
variable {F : Nat → Prop} {p : Nat} {w w1 : World} {v : Value} {d : St}
theorem ren_last {a b la : ByteArray} (ha : a ≠ nil_) (hab : a ≠ b) (h : la = if d.last = b then nil_ else d.last) : (if la = a then b else la) = if d.last = a then b else if d.last = b then nil_ else d.last := by
  rw [h]
  by_cases h1 : d.last = b
  · rw [if_pos h1, if_neg (fun e => ha e.symm), if_neg (fun e => hab (e.symm.trans h1))]
  · rw [if_neg h1]
theorem posI_map (nm : ByteArray) (l : List Fl) : posI nm (l.map Fl.out) = match pos nm l with | some i => (i : Int) | none => -1 := posI_files nm ⟨l, nil_, 0, false⟩
theorem rat_noneL {fs : List Fl} {ar : Nat} {dn : Bool} {la : ByteArray} (h : RefIs w F p v (fs.map Fl.out) ar dn la) (hl : (fs.map Fl.out).length ≤ 1048576) {nm : ByteArray} (hk : pos nm fs = none) :
    Calls Try.prog 37 #[ptr p, .string nm] w fun e w' => e = .returned (.int .i64 (-1)) ∧ w = w' := by
  refine (rat_calls h nm (by omega)).mono ?_
  rintro e w' ⟨rfl, rfl⟩
  rw [posI_map, hk]
  exact ⟨rfl, rfl⟩
theorem rat_someL {fs : List Fl} {ar : Nat} {dn : Bool} {la : ByteArray} (h : RefIs w F p v (fs.map Fl.out) ar dn la) (hl : (fs.map Fl.out).length ≤ 1048576) {nm : ByteArray} {i : Nat} (hk : pos nm fs = some i) :
    Calls Try.prog 37 #[ptr p, .string nm] w fun e w' => e = .returned (.int .i64 (i : Int)) ∧ w = w' := by
  refine (rat_calls h nm (by omega)).mono ?_
  rintro e w' ⟨rfl, rfl⟩
  rw [posI_map, hk]
  exact ⟨rfl, rfl⟩
theorem rtake_fl {fs : List Fl} {ar : Nat} {dn : Bool} {la nm : ByteArray} {i : Nat} {f : Fl} (h : RefIs w F p v (fs.map Fl.out) ar dn la) (hs : Srt Fl.nm fs) (hl : (fs.map Fl.out).length ≤ 1048576) (hp : pos nm fs = some i) (hf : fs[i]? = some f) :
    Calls Try.prog 62 #[ptr p, .int .i64 (i : Int)] w fun e w' => ∃ (A4 : Option Addr) (c4 : Nat) (v' : Value), e = .returned (.agg #[.string f.nm, .slice A4 f.dat.length c4, .int .i64 f.syn]) ∧ f.dat.length ≤ c4 ∧ Kd.F (Kd.int .u8) w' (fun k => Gr F w w' k ∧ k ≠ p) A4 f.dat.length f.dat ∧ RefIs w' (Gr F w w') p v' ((era Fl.nm nm fs).map Fl.out) ar dn la ∧ Chg (· = p) w w' := by
  obtain ⟨hi, he⟩ := List.getElem?_eq_some_iff.1 hf
  have hi2 : i < (fs.map Fl.out).length := by rwa [List.length_map]
  have e2 : (fs.map Fl.out)[i] = f.out := by rw [List.getElem_map, he]
  refine (rtake_calls h hi2 hl).mono ?_
  intro e w' h2
  rw [e2] at h2
  obtain ⟨A4, c4, v', h3, h4, h5, h6, h7⟩ := h2
  rw [take_files hs hp] at h6
  exact ⟨A4, c4, v', h3, h4, h5, h6, h7⟩
theorem ok_nonempty {s : ByteArray} (h : okName s = true) : s ≠ nil_ := by
  intro e
  rw [e] at h
  revert h
  decide
set_option maxRecDepth 100000 in
set_option maxHeartbeats 2000000 in
theorem rrename_calls (a b : ByteArray) (h : RefAt w F p d) (ok : d.Ok) (hb : b.size ≤ 140737488351232) :
    Calls Try.prog 52 #[ptr p, .string a, .string b] w (RPost F p w (d.rename a b)) := by
  have hn2 : b.size ≤ 9223372036854775806 := by omega
  have h' := h
  obtain ⟨v, hI⟩ := h
  have b2 := sb_cell hI.blk 2
  simp at b2
  have HI := Lib.hid hI
  have HA := Lib.hid ok
  have HH := Lib.hid h'
  clear hI h' hb
  generalize hr : d.rename a b = r
  unfold St.rename at hr
  by_cases hd : d.down = true
  · rw [if_pos hd] at hr
    rw [hd] at b2
    have HR := Lib.hid hr
    clear hr hd ok
    go_enter Try.func52, Try.ntmps52
    go_wp2
    go_ret
    rw [← HR.out]
    exact RPost.same HH.out 0
  rw [if_neg hd] at hr
  have hd' : d.down = false := by simpa using hd
  rw [hd'] at b2
  cases hp : pos a d.fs with
  | none =>
    have hlk := pos_none.1 hp
    rw [hlk] at hr
    have HR := Lib.hid hr
    have HPs := Lib.hid hp
    clear hr hd hd' ok hp hlk
    go_enter Try.func52, Try.ntmps52
    go_wp2_with (go_at_call 37; refine (rat_none (by exact HI.out) (by exact HA.out) (by exact HPs.out)).mono ?_; rintro e w' ⟨rfl, rfl⟩)
    go_ret
    rw [← HR.out]
    exact RPost.same HH.out 0
  | some i =>
  obtain ⟨hi, hin⟩ := pos_some hp
  have hlk := pos_look ok.srt hp hi
  rw [hlk] at hr
  simp only at hr
  have HPs := Lib.hid hp
  have hil := pos_len hp
  have HIL := Lib.hid hil
  have hi0 : (0 : Int) ≤ (i : Int) := by omega
  have hane : a ≠ nil_ := ok_nonempty (by rw [← hin]; exact ok.named _ (List.getElem_mem hi))
  have HAN := Lib.hid hane
  clear hane
  cases hk : okName b with
  | false =>
    rw [if_pos hk] at hr
    have HR := Lib.hid hr
    have HK := Lib.hid hk
    clear hr hd hd' ok hp hi hin hlk hil hk
    go_enter Try.func52, Try.ntmps52
    go_wp2_with (first
      | (go_at_call 36; refine (rname_calls _ _ hn2).mono ?_; rw [HK.out]; rintro e w' ⟨rfl, ⟨nd, rfl⟩⟩)
      | (go_at_call 37; refine (rat_some (by exact HI.out) (by exact HA.out) (by exact HPs.out)).mono ?_; rintro e w' ⟨rfl, rfl⟩))
    go_ret
    rw [← HR.out]
    exact RPost.same HH.out nd
  | true =>
  rw [if_neg (by rw [hk]; simp)] at hr
  have HK := Lib.hid hk
  cases ht : (tick d).1 with
  | true =>
    rw [ht, if_pos rfl] at hr
    have HR := Lib.hid hr
    have HT := Lib.hid ht
    clear hr hd hd' ok hp hi hin hlk hil hk ht
    go_enter Try.func52, Try.ntmps52
    go_wp2_with (first
      | (go_at_call 36; refine (rname_calls _ _ hn2).mono ?_; rw [HK.out]; rintro e w' ⟨rfl, ⟨nd, rfl⟩⟩)
      | (go_at_call 37; refine (rat_some (by exact HI.out) (by exact HA.out) (by exact HPs.out)).mono ?_; rintro e w' ⟨rfl, rfl⟩)
      | (go_at_call 38; refine (rtick_calls p _ _ d.last d.armed d.down d rfl rfl HA.out.armed (by exact HI.out.blk)).mono ?_; rintro e w1 ⟨rfl, hb1, hs1, hc1⟩; rw [HT.out]; have HX := Lib.hid hb1; clear hb1))
    go_ret
    rw [← HR.out]
    exact RPost.ticked HI.out HX.out hc1
  | false =>
  rw [ht, if_neg (by simp)] at hr
  have HT := Lib.hid ht
  by_cases hab : a = b
  · rw [if_pos hab] at hr
    have t1 : (a.toList == b.toList) = true := by rw [tl_beq]; exact decide_eq_true hab
    have HR := Lib.hid hr
    clear hr hd hd' ok hp hi hin hlk hil hk ht hab
    go_enter Try.func52, Try.ntmps52
    go_wp2_with (first
      | (go_at_call 36; refine (rname_calls _ _ hn2).mono ?_; rw [HK.out]; rintro e w' ⟨rfl, ⟨nd, rfl⟩⟩)
      | (go_at_call 37; refine (rat_some (by exact HI.out) (by exact HA.out) (by exact HPs.out)).mono ?_; rintro e w' ⟨rfl, rfl⟩)
      | (go_at_call 38; refine (rtick_calls p _ _ d.last d.armed d.down d rfl rfl HA.out.armed (by exact HI.out.blk)).mono ?_; rintro e w1 ⟨rfl, hb1, hs1, hc1⟩; rw [HT.out]; have HX := Lib.hid hb1; clear hb1))
    go_ret
    rw [← HR.out]
    exact RPost.ticked HI.out HX.out hc1
  rw [if_neg hab] at hr
  have t1 : (a.toList == b.toList) = false := by rw [tl_beq]; exact decide_eq_false hab
  have HAB := Lib.hid hab
  have HR := Lib.hid hr
  obtain ⟨f, hf⟩ : ∃ f, f = d.fs[i] := ⟨_, rfl⟩
  rw [← hf] at hr hin
  have hfi : d.fs[i]? = some f := by rw [hf, List.getElem?_eq_getElem hi]
  have HFI := Lib.hid hfi
  have hsr : Srt Fl.nm (era Fl.nm a d.fs) := ok.srt.era a
  have HSr := Lib.hid hsr
  have hcnt : ((era Fl.nm a d.fs).map Fl.out).length ≤ 1048576 := by
    have h1 := ok.cnt
    have h2 : (era Fl.nm a d.fs).length ≤ d.fs.length := List.length_filter_le _ _
    rw [List.length_map]
    omega
  have HCn := Lib.hid hcnt
  have HR2 : Hid (r = (0, { (tick d).2 with fs := ins Fl.nm { f with nm := b } (era Fl.nm b (era Fl.nm a d.fs)), last := if d.last = a then b else if d.last = b then nil_ else d.last })) := Lib.hid (by rw [← HR.out, hf])
  have hlast : pos b (era Fl.nm a d.fs) = none → d.last ≠ b := by
    intro hpn hlb
    rcases ok.last with h1 | ⟨x, hx, hxn⟩
    · exact ok_nonempty hk (hlb.symm.trans h1)
    · exact look_none.1 (pos_none.1 hpn) x (mem_era.2 ⟨hx, fun e => hab (e.symm.trans (hxn.trans hlb))⟩) (hxn.trans hlb)
  have HLast := Lib.hid hlast
  clear HR hr hd hd' ok hp hi hin hlk hil hk ht hab hfi hf hsr hcnt hlast
  go_enter Try.func52, Try.ntmps52
  go_upto_region 12 with (first
    | (go_at_call 36; refine (rname_calls _ _ hn2).mono ?_; rw [HK.out]; rintro e w' ⟨rfl, ⟨nd, rfl⟩⟩)
    | (go_at_call 37; refine (rat_some (by exact HI.out) (by exact HA.out) (by exact HPs.out)).mono ?_; rintro e w' ⟨rfl, rfl⟩)
    | (go_at_call 38; refine (rtick_calls p _ _ d.last d.armed d.down d rfl rfl HA.out.armed (by exact HI.out.blk)).mono ?_; rintro e w1 ⟨rfl, hb1, hs1, hc1⟩; rw [HT.out]; have HX := Lib.hid (HI.out.head hb1 ((Chg.drewN w nd).same hc1)); have HC1 := Lib.hid ((Chg.drewN (F := (· = p)) w nd).same hc1); clear hb1 hs1 hc1))
  go_upto_region 13 with (first
    | (go_at_call 37; refine (rat_someL (fs := d.fs) (by exact HX.out) (by exact files_short HA.out) (by exact HPs.out)).mono ?_; rintro e w' ⟨rfl, rfl⟩)
    | (go_at_call 62; refine (rtake_fl (fs := d.fs) (by exact HX.out) (by exact HA.out.srt) (by exact files_short HA.out) (by exact HPs.out) (by exact HFI.out)).mono ?_; rintro e w2 ⟨A4, c4, v2, rfl, hc4, hF4, hR2, hc2⟩; have HR2' := Lib.hid hR2; have HC2 := Lib.hid hc2; have HF4 := Lib.hid hF4; have HC4 := Lib.hid hc4; clear hR2 hc2 hF4 hc4))
  obtain ⟨W8, hW8⟩ : ∃ W8, W8 = w2.alloc (.cells #[.string f.nm, .slice A4 f.dat.length c4, .int .i64 f.syn] 36) := ⟨_, rfl⟩
  have hb8 : Below w2.heap.size w2 W8 := by rw [hW8]; exact below_alloc (Below.refl _ _) _
  have B8 : W8.heap[w2.heap.size]? = some (.cells #[.string f.nm, .slice A4 f.dat.length c4, .int .i64 f.syn] 36 (0, 0)) := by rw [hW8]; exact sb_new _ _
  have hs8 : W8.heap.size = w2.heap.size + 1 := by rw [hW8]; simp
  rw [← hW8]
  obtain ⟨q8, hq8⟩ : ∃ q, q = w2.heap.size := ⟨_, rfl⟩
  obtain ⟨G2, hG2⟩ : ∃ G, G = Gr F w1 w2 := ⟨_, rfl⟩
  have hR8 : RefIs W8 G2 p v2 ((era Fl.nm a d.fs).map Fl.out) (tick d).2.armed (tick d).2.down d.last := by rw [hG2]; exact HR2'.out.below hb8
  have hF8 : Kd.F (Kd.int .u8) W8 (fun k => G2 k ∧ k ≠ p) A4 f.dat.length f.dat := by rw [hG2]; exact Kd.F_below HF4.out hb8
  have hN8 : ¬ G2 q8 := fun hk => by
    rw [hG2] at hk
    have h1 := Gr.lt HX.out.lt HC2.out.size q8 hk
    omega
  have hc8 : Chg (· = p) w W8 := (HC1.out.same HC2.out).same (Chg.of_below hb8)
  have hG8 : ∀ k, G2 k → Gr F w W8 k := fun k hk => by
    rw [hG2] at hk
    rcases hk with h1 | h1
    · exact .inl h1
    · exact .inr ⟨Nat.le_trans HC1.out.size h1.1, by have := h1.2; omega⟩
  have hq8s : q8 < W8.heap.size := by omega
  rw [← hq8] at B8 ⊢
  have b3 := sb_cell hR8.blk 3
  have f3 := sb_free hR8.blk 3
  simp at b3
  have HR8 := Lib.hid hR8
  have HF8 := Lib.hid hF8
  have HN8 := Lib.hid hN8
  have HC8 := Lib.hid hc8
  have HG8 := Lib.hid hG8
  have HB8 := Lib.hid B8
  have HQ8 := Lib.hid hq8s
  have HW0 := Lib.hid hq8
  clear hW8 hb8 B8 hs8 hG2 hR8 hF8 hN8 hc8 hG8 hq8 hq8s
  cases hpb : pos b (era Fl.nm a d.fs) with
  | none =>
    have HPB := Lib.hid hpb
    clear hpb
    go_upto_region 17 with (go_at_call 37; refine (rat_noneL (by exact HR8.out) (by exact HCn.out) (by exact HPB.out)).mono ?_; rintro e w' ⟨rfl, rfl⟩)
    obtain ⟨w17, hw17⟩ : ∃ x, x = W8 := ⟨_, rfl⟩
    obtain ⟨G17, hG17⟩ : ∃ x, x = G2 := ⟨_, rfl⟩
    obtain ⟨v17, hv17⟩ : ∃ x, x = v2 := ⟨_, rfl⟩
    obtain ⟨la17, hl17⟩ : ∃ x, x = d.last := ⟨_, rfl⟩
    have hbe : era Fl.nm b (era Fl.nm a d.fs) = era Fl.nm a d.fs := era_gone (pos_none.1 HPB.out)
    have H17 : Hid (RefIs w17 G17 p v17 ((era Fl.nm b (era Fl.nm a d.fs)).map Fl.out) (tick d).2.armed (tick d).2.down la17) := Lib.hid (by rw [hbe, hw17, hG17, hv17, hl17]; exact HR8.out)
    have H17q : Hid (w17.heap[q8]? = some (.cells #[.string f.nm, .slice A4 f.dat.length c4, .int .i64 f.syn] 36 (0, 0))) := Lib.hid (by rw [hw17]; exact HB8.out)
    have H17n : Hid (¬ G17 q8) := Lib.hid (by rw [hG17]; exact HN8.out)
    have H17f : Hid (Kd.F (Kd.int .u8) w17 (fun k => G17 k ∧ k ≠ p) A4 f.dat.length f.dat) := Lib.hid (by rw [hw17, hG17]; exact HF8.out)
    have H17c : Hid (Chg (· = p) w w17) := Lib.hid (by rw [hw17]; exact HC8.out)
    have H17g : Hid (∀ k, G17 k → Gr F w w17 k) := Lib.hid (by rw [hw17, hG17]; exact HG8.out)
    have H17l : Hid (la17 = if d.last = b then nil_ else d.last) := Lib.hid (by rw [hl17, if_neg (HLast.out HPB.out)])
    rw [← hw17]
    clear hw17 hG17 hv17 hl17 hbe b3 f3
    -- here: w17 (the world), G17, v17, la17 and H17 .. H17g
    have b3' := sb_cell H17.out.blk 3
    have f3' := sb_free H17.out.blk 3
    have z0 := sb_cell H17q.out 0
    have z1 := sb_cell H17q.out 1
    have z2 := sb_cell H17q.out 2
    have r0 := sb_free H17q.out 0
    simp at b3' z0 z1 z2
    have hqp : q8 ≠ p := fun e => H17n.out (e ▸ H17.out.fp)
    by_cases hlx : la17 = a
    · have t3 : (la17.toList == a.toList) = true := by rw [tl_beq]; exact decide_eq_true hlx
      have HLX := Lib.hid hlx
      clear hlx
      go_upto_region 20 with fail
      obtain ⟨w18, hw18⟩ : ∃ x, x = w17.setCell ⟨p, 3, none⟩ (.string b) := ⟨_, rfl⟩
      obtain ⟨la18, hl18⟩ : ∃ x, x = b := ⟨_, rfl⟩
      have H18 : RefIs w18 G17 p v17 ((era Fl.nm b (era Fl.nm a d.fs)).map Fl.out) (tick d).2.armed (tick d).2.down la18 := by
        rw [hw18, hl18]
        refine H17.out.head ?_ (Chg.setCell (F := (· = p)) w17 (p := ⟨p, 3, none⟩) rfl (.string b))
        have h2 := sb_set H17.out.blk 3 (.string b)
        simpa using h2
      have C18 : Chg (· = p) w17 w18 := by rw [hw18]; exact Chg.setCell (F := (· = p)) w17 (p := ⟨p, 3, none⟩) rfl (.string b)
      have E18 : Hid (la18 = if d.last = a then b else if d.last = b then nil_ else d.last) := Lib.hid (by
        have h2 := ren_last HAN.out HAB.out H17l.out
        rw [if_pos HLX.out] at h2
        rw [hl18]
        exact h2)
      rw [← hw18]
      clear hw18 hl18
      have hb18 := (C18.block q8 (blk_lt H17q.out) hqp).trans H17q.out
      have H19 : RefIs (w18.setCell ⟨q8, 0, none⟩ (.string b)) G17 p v17 ((era Fl.nm b (era Fl.nm a d.fs)).map Fl.out) (tick d).2.armed (tick d).2.down la18 := H18.stay (by simp [World.setCell]) (fun k hk => Below.heap_setCell w18 ⟨q8, 0, none⟩ (.string b) k (fun e => H17n.out ((show k = q8 from e) ▸ hk)))
      have B19 := sb_set hb18 0 (.string b)
      simp at B19
      have F19 : Kd.F (Kd.int .u8) (w18.setCell ⟨q8, 0, none⟩ (.string b)) (fun k => G17 k ∧ k ≠ p) A4 f.dat.length f.dat := Kd.F_far (Kd.F_step H17f.out (fun k hk hlt => C18.block k hlt hk.2)) (p := ⟨q8, 0, none⟩) (fun k hk e => H17n.out ((show k = q8 from e) ▸ hk.1)) _
      have C19 : Chg (fun k => k = p ∨ w.heap.size ≤ k) w (w18.setCell ⟨q8, 0, none⟩ (.string b)) := ((H17c.out.same C18).mono (fun k hk => .inl hk)).same (Chg.setCell (F := fun k => k = p ∨ w.heap.size ≤ k) w18 (p := ⟨q8, 0, none⟩) (.inr (by have := HW0.out; have := HC1.out.size; have := HC2.out.size; show w.heap.size ≤ q8; omega)) _)
      obtain ⟨w19, hw19⟩ : ∃ x, x = w18.setCell ⟨q8, 0, none⟩ (.string b) := ⟨_, rfl⟩
      rw [← hw19] at H19 B19 F19 C19 ⊢
      clear hw19 hb18 b3' f3' z0 z1 z2 r0
      have y0 := sb_cell B19 0
      have y1 := sb_cell B19 1
      have y2 := sb_cell B19 2
      simp at y0 y1 y2
      have H19' := Lib.hid H19
      have F19' := Lib.hid F19
      have C19' := Lib.hid C19
      have hfin : ((era Fl.nm b (era Fl.nm a d.fs)).map Fl.out).length ≤ 1048576 := by
        have h1 := HCn.out
        have h2 : (era Fl.nm b (era Fl.nm a d.fs)).length ≤ (era Fl.nm a d.fs).length := List.length_filter_le _ _
        rw [List.length_map] at h1 ⊢
        omega
      have HFin := Lib.hid hfin
      clear H19 B19 F19 C19 H18 C18 hfin
      go_wp2_with (go_at_call 39; refine (rput_calls (by exact H19'.out) ⟨b, f.dat, f.syn⟩ A4 c4 (by exact HC4.out) (by exact F19'.out) (by exact HFin.out)).mono ?_; rintro e w20 ⟨rfl, v20, j20, hR20, hc20, hj20, hl1, hl2⟩; have HR20 := Lib.hid hR20; have HC20 := Lib.hid hc20; have HJ := Lib.hid hj20; have HL1 := Lib.hid hl1; have HL2 := Lib.hid hl2; clear hR20 hc20 hj20 hl1 hl2)
      go_ret
      rw [HR2.out]
      have hlk : look Fl.nm b (era Fl.nm b (era Fl.nm a d.fs)) = none := look_none.2 (fun y hy => (mem_era.1 hy).2)
      have e20 : ((era Fl.nm b (era Fl.nm a d.fs)).map Fl.out).take j20 ++ (⟨b, f.dat, f.syn⟩ : SF) :: ((era Fl.nm b (era Fl.nm a d.fs)).map Fl.out).drop j20 = (ins Fl.nm { f with nm := b } (era Fl.nm b (era Fl.nm a d.fs))).map Fl.out := put_files (x := { f with nm := b }) hlk HJ.out HL1.out HL2.out
      have hR := HR20.out
      rw [e20] at hR
      have hcF : Chg F w w20 := C19'.out.trans HC20.out (fun k hk => .inl (.inl hk)) |>.trans (Chg.refl (fun _ => False) _) (fun _ h => h.elim) |> fun h => ⟨h.os, h.tape, h.output, h.size, fun k hk hn => h.block k hk (fun e => e.elim (fun e => hn (e ▸ HI.out.fp)) (fun e => by omega))⟩
      refine ⟨rfl, ⟨v20, ?_⟩, hcF⟩
      simp only [← E18.out]
      refine hR.wide (fun k hk => ?_) (Gr.lt HI.out.lt hcF.size)
      rcases hk with hk | hk
      · rcases H17g.out k hk with h1 | h1
        · exact .inl h1
        · exact .inr ⟨h1.1, Nat.lt_of_lt_of_le (H19'.out.lt k hk) HC20.out.size⟩
      · exact .inr ⟨Nat.le_trans C19'.out.size hk.1, hk.2⟩
    · have t3 : (la17.toList == a.toList) = false := by rw [tl_beq]; exact decide_eq_false hlx
      have HLX := Lib.hid hlx
      clear hlx
      go_upto_region 20 with fail
      obtain ⟨w18, hw18⟩ : ∃ x, x = w17 := ⟨_, rfl⟩
      obtain ⟨la18, hl18⟩ : ∃ x, x = la17 := ⟨_, rfl⟩
      have H18 : RefIs w18 G17 p v17 ((era Fl.nm b (era Fl.nm a d.fs)).map Fl.out) (tick d).2.armed (tick d).2.down la18 := by
        rw [hw18, hl18]
        exact H17.out
      have C18 : Chg (· = p) w17 w18 := by rw [hw18]; exact Chg.refl _ _
      have E18 : Hid (la18 = if d.last = a then b else if d.last = b then nil_ else d.last) := Lib.hid (by
        have h2 := ren_last HAN.out HAB.out H17l.out
        rw [if_neg HLX.out] at h2
        rw [hl18]
        exact h2)
      rw [← hw18]
      clear hw18 hl18
      have hb18 := (C18.block q8 (blk_lt H17q.out) hqp).trans H17q.out
      have H19 : RefIs (w18.setCell ⟨q8, 0, none⟩ (.string b)) G17 p v17 ((era Fl.nm b (era Fl.nm a d.fs)).map Fl.out) (tick d).2.armed (tick d).2.down la18 := H18.stay (by simp [World.setCell]) (fun k hk => Below.heap_setCell w18 ⟨q8, 0, none⟩ (.string b) k (fun e => H17n.out ((show k = q8 from e) ▸ hk)))
      have B19 := sb_set hb18 0 (.string b)
      simp at B19
      have F19 : Kd.F (Kd.int .u8) (w18.setCell ⟨q8, 0, none⟩ (.string b)) (fun k => G17 k ∧ k ≠ p) A4 f.dat.length f.dat := Kd.F_far (Kd.F_step H17f.out (fun k hk hlt => C18.block k hlt hk.2)) (p := ⟨q8, 0, none⟩) (fun k hk e => H17n.out ((show k = q8 from e) ▸ hk.1)) _
      have C19 : Chg (fun k => k = p ∨ w.heap.size ≤ k) w (w18.setCell ⟨q8, 0, none⟩ (.string b)) := ((H17c.out.same C18).mono (fun k hk => .inl hk)).same (Chg.setCell (F := fun k => k = p ∨ w.heap.size ≤ k) w18 (p := ⟨q8, 0, none⟩) (.inr (by have := HW0.out; have := HC1.out.size; have := HC2.out.size; show w.heap.size ≤ q8; omega)) _)
      obtain ⟨w19, hw19⟩ : ∃ x, x = w18.setCell ⟨q8, 0, none⟩ (.string b) := ⟨_, rfl⟩
      rw [← hw19] at H19 B19 F19 C19 ⊢
      clear hw19 hb18 b3' f3' z0 z1 z2 r0
      have y0 := sb_cell B19 0
      have y1 := sb_cell B19 1
      have y2 := sb_cell B19 2
      simp at y0 y1 y2
      have H19' := Lib.hid H19
      have F19' := Lib.hid F19
      have C19' := Lib.hid C19
      have hfin : ((era Fl.nm b (era Fl.nm a d.fs)).map Fl.out).length ≤ 1048576 := by
        have h1 := HCn.out
        have h2 : (era Fl.nm b (era Fl.nm a d.fs)).length ≤ (era Fl.nm a d.fs).length := List.length_filter_le _ _
        rw [List.length_map] at h1 ⊢
        omega
      have HFin := Lib.hid hfin
      clear H19 B19 F19 C19 H18 C18 hfin
      go_wp2_with (go_at_call 39; refine (rput_calls (by exact H19'.out) ⟨b, f.dat, f.syn⟩ A4 c4 (by exact HC4.out) (by exact F19'.out) (by exact HFin.out)).mono ?_; rintro e w20 ⟨rfl, v20, j20, hR20, hc20, hj20, hl1, hl2⟩; have HR20 := Lib.hid hR20; have HC20 := Lib.hid hc20; have HJ := Lib.hid hj20; have HL1 := Lib.hid hl1; have HL2 := Lib.hid hl2; clear hR20 hc20 hj20 hl1 hl2)
      go_ret
      rw [HR2.out]
      have hlk : look Fl.nm b (era Fl.nm b (era Fl.nm a d.fs)) = none := look_none.2 (fun y hy => (mem_era.1 hy).2)
      have e20 : ((era Fl.nm b (era Fl.nm a d.fs)).map Fl.out).take j20 ++ (⟨b, f.dat, f.syn⟩ : SF) :: ((era Fl.nm b (era Fl.nm a d.fs)).map Fl.out).drop j20 = (ins Fl.nm { f with nm := b } (era Fl.nm b (era Fl.nm a d.fs))).map Fl.out := put_files (x := { f with nm := b }) hlk HJ.out HL1.out HL2.out
      have hR := HR20.out
      rw [e20] at hR
      have hcF : Chg F w w20 := C19'.out.trans HC20.out (fun k hk => .inl (.inl hk)) |>.trans (Chg.refl (fun _ => False) _) (fun _ h => h.elim) |> fun h => ⟨h.os, h.tape, h.output, h.size, fun k hk hn => h.block k hk (fun e => e.elim (fun e => hn (e ▸ HI.out.fp)) (fun e => by omega))⟩
      refine ⟨rfl, ⟨v20, ?_⟩, hcF⟩
      simp only [← E18.out]
      refine hR.wide (fun k hk => ?_) (Gr.lt HI.out.lt hcF.size)
      rcases hk with hk | hk
      · rcases H17g.out k hk with h1 | h1
        · exact .inl h1
        · exact .inr ⟨h1.1, Nat.lt_of_lt_of_le (H19'.out.lt k hk) HC20.out.size⟩
      · exact .inr ⟨Nat.le_trans C19'.out.size hk.1, hk.2⟩
  | some j =>
    have HPB := Lib.hid hpb
    obtain ⟨hj, hjn⟩ := pos_some hpb
    have hj0 : (0 : Int) ≤ (j : Int) := by omega
    have HJF := Lib.hid (List.getElem?_eq_getElem hj)
    clear hpb hjn
    by_cases hlb : d.last = b
    · have t2 : (d.last.toList == b.toList) = true := by rw [tl_beq]; exact decide_eq_true hlb
      have HLB := Lib.hid hlb
      clear hlb
      go_upto_region 17 with (first
        | (go_at_call 37; refine (rat_someL (by exact HR8.out) (by exact HCn.out) (by exact HPB.out)).mono ?_; rintro e w' ⟨rfl, rfl⟩)
        | (go_at_call 62; refine (rtake_fl (by exact HR8.out) (by exact HSr.out) (by exact HCn.out) (by exact HPB.out) (by exact HJF.out)).mono ?_; rintro e w3 ⟨A6, c6, v3, rfl, -, -, hR3, hc3⟩; clear b3 f3; have b3 := sb_cell hR3.blk 3; have f3 := sb_free hR3.blk 3; simp at b3; have HR3 := Lib.hid hR3; have HC3 := Lib.hid hc3; clear hR3 hc3))
      obtain ⟨w17, hw17⟩ : ∃ x, x = w3.setCell ⟨p, 3, none⟩ (.string ⟨#[]⟩) := ⟨_, rfl⟩
      obtain ⟨G17, hG17⟩ : ∃ x, x = Gr G2 W8 w3 := ⟨_, rfl⟩
      obtain ⟨v17, hv17⟩ : ∃ x, x = v3 := ⟨_, rfl⟩
      obtain ⟨la17, hl17⟩ : ∃ x, x = nil_ := ⟨_, rfl⟩
      have hc17 : Chg (· = p) w3 w17 := by rw [hw17]; exact Chg.setCell (F := (· = p)) w3 (p := ⟨p, 3, none⟩) rfl (.string ⟨#[]⟩)
      have hq3 : q8 ≠ p := fun e => HN8.out (e ▸ HR8.out.fp)
      have H17 : Hid (RefIs w17 G17 p v17 ((era Fl.nm b (era Fl.nm a d.fs)).map Fl.out) (tick d).2.armed (tick d).2.down la17) := Lib.hid (by
        rw [hG17, hv17, hl17]
        refine HR3.out.head ?_ hc17
        rw [hw17]
        have h2 := sb_set HR3.out.blk 3 (.string ⟨#[]⟩)
        simpa [nil_] using h2)
      have H17q : Hid (w17.heap[q8]? = some (.cells #[.string f.nm, .slice A4 f.dat.length c4, .int .i64 f.syn] 36 (0, 0))) := Lib.hid (((HC3.out.same hc17).block q8 (blk_lt HB8.out) hq3).trans HB8.out)
      have H17n : Hid (¬ G17 q8) := Lib.hid (by
        rw [hG17]
        rintro (h1 | h1)
        · exact HN8.out h1
        · have := HQ8.out
          omega)
      have H17f : Hid (Kd.F (Kd.int .u8) w17 (fun k => G17 k ∧ k ≠ p) A4 f.dat.length f.dat) := Lib.hid (by
        rw [hG17]
        exact Kd.F_mono (Kd.F_step HF8.out (fun k hk hlt => (HC3.out.same hc17).block k hlt hk.2)) (fun k hk => ⟨.inl hk.1, hk.2⟩))
      have H17c : Hid (Chg (· = p) w w17) := Lib.hid ((HC8.out.same HC3.out).same hc17)
      have H17g : Hid (∀ k, G17 k → Gr F w w17 k) := Lib.hid (by
        rw [hG17]
        rintro k (h1 | h1)
        · rcases HG8.out k h1 with h2 | h2
          · exact .inl h2
          · exact .inr ⟨h2.1, by have := h2.2; have := HC3.out.size; have := hc17.size; omega⟩
        · exact .inr ⟨Nat.le_trans HC8.out.size h1.1, by have := h1.2; have := hc17.size; omega⟩)
      have H17l : Hid (la17 = if d.last = b then nil_ else d.last) := Lib.hid (by rw [hl17, if_pos HLB.out])
      rw [← hw17]
      clear hw17 hG17 hv17 hl17 hc17 hq3 b3 f3
      -- here: w17 (the world), G17, v17, la17 and H17 .. H17g
      have b3' := sb_cell H17.out.blk 3
      have f3' := sb_free H17.out.blk 3
      have z0 := sb_cell H17q.out 0
      have z1 := sb_cell H17q.out 1
      have z2 := sb_cell H17q.out 2
      have r0 := sb_free H17q.out 0
      simp at b3' z0 z1 z2
      have hqp : q8 ≠ p := fun e => H17n.out (e ▸ H17.out.fp)
      by_cases hlx : la17 = a
      · have t3 : (la17.toList == a.toList) = true := by rw [tl_beq]; exact decide_eq_true hlx
        have HLX := Lib.hid hlx
        clear hlx
        go_upto_region 20 with fail
        obtain ⟨w18, hw18⟩ : ∃ x, x = w17.setCell ⟨p, 3, none⟩ (.string b) := ⟨_, rfl⟩
        obtain ⟨la18, hl18⟩ : ∃ x, x = b := ⟨_, rfl⟩
        have H18 : RefIs w18 G17 p v17 ((era Fl.nm b (era Fl.nm a d.fs)).map Fl.out) (tick d).2.armed (tick d).2.down la18 := by
          rw [hw18, hl18]
          refine H17.out.head ?_ (Chg.setCell (F := (· = p)) w17 (p := ⟨p, 3, none⟩) rfl (.string b))
          have h2 := sb_set H17.out.blk 3 (.string b)
          simpa using h2
        have C18 : Chg (· = p) w17 w18 := by rw [hw18]; exact Chg.setCell (F := (· = p)) w17 (p := ⟨p, 3, none⟩) rfl (.string b)
        have E18 : Hid (la18 = if d.last = a then b else if d.last = b then nil_ else d.last) := Lib.hid (by
          have h2 := ren_last HAN.out HAB.out H17l.out
          rw [if_pos HLX.out] at h2
          rw [hl18]
          exact h2)
        rw [← hw18]
        clear hw18 hl18
        have hb18 := (C18.block q8 (blk_lt H17q.out) hqp).trans H17q.out
        have H19 : RefIs (w18.setCell ⟨q8, 0, none⟩ (.string b)) G17 p v17 ((era Fl.nm b (era Fl.nm a d.fs)).map Fl.out) (tick d).2.armed (tick d).2.down la18 := H18.stay (by simp [World.setCell]) (fun k hk => Below.heap_setCell w18 ⟨q8, 0, none⟩ (.string b) k (fun e => H17n.out ((show k = q8 from e) ▸ hk)))
        have B19 := sb_set hb18 0 (.string b)
        simp at B19
        have F19 : Kd.F (Kd.int .u8) (w18.setCell ⟨q8, 0, none⟩ (.string b)) (fun k => G17 k ∧ k ≠ p) A4 f.dat.length f.dat := Kd.F_far (Kd.F_step H17f.out (fun k hk hlt => C18.block k hlt hk.2)) (p := ⟨q8, 0, none⟩) (fun k hk e => H17n.out ((show k = q8 from e) ▸ hk.1)) _
        have C19 : Chg (fun k => k = p ∨ w.heap.size ≤ k) w (w18.setCell ⟨q8, 0, none⟩ (.string b)) := ((H17c.out.same C18).mono (fun k hk => .inl hk)).same (Chg.setCell (F := fun k => k = p ∨ w.heap.size ≤ k) w18 (p := ⟨q8, 0, none⟩) (.inr (by have := HW0.out; have := HC1.out.size; have := HC2.out.size; show w.heap.size ≤ q8; omega)) _)
        obtain ⟨w19, hw19⟩ : ∃ x, x = w18.setCell ⟨q8, 0, none⟩ (.string b) := ⟨_, rfl⟩
        rw [← hw19] at H19 B19 F19 C19 ⊢
        clear hw19 hb18 b3' f3' z0 z1 z2 r0
        have y0 := sb_cell B19 0
        have y1 := sb_cell B19 1
        have y2 := sb_cell B19 2
        simp at y0 y1 y2
        have H19' := Lib.hid H19
        have F19' := Lib.hid F19
        have C19' := Lib.hid C19
        have hfin : ((era Fl.nm b (era Fl.nm a d.fs)).map Fl.out).length ≤ 1048576 := by
          have h1 := HCn.out
          have h2 : (era Fl.nm b (era Fl.nm a d.fs)).length ≤ (era Fl.nm a d.fs).length := List.length_filter_le _ _
          rw [List.length_map] at h1 ⊢
          omega
        have HFin := Lib.hid hfin
        clear H19 B19 F19 C19 H18 C18 hfin
        go_wp2_with (go_at_call 39; refine (rput_calls (by exact H19'.out) ⟨b, f.dat, f.syn⟩ A4 c4 (by exact HC4.out) (by exact F19'.out) (by exact HFin.out)).mono ?_; rintro e w20 ⟨rfl, v20, j20, hR20, hc20, hj20, hl1, hl2⟩; have HR20 := Lib.hid hR20; have HC20 := Lib.hid hc20; have HJ := Lib.hid hj20; have HL1 := Lib.hid hl1; have HL2 := Lib.hid hl2; clear hR20 hc20 hj20 hl1 hl2)
        go_ret
        rw [HR2.out]
        have hlk : look Fl.nm b (era Fl.nm b (era Fl.nm a d.fs)) = none := look_none.2 (fun y hy => (mem_era.1 hy).2)
        have e20 : ((era Fl.nm b (era Fl.nm a d.fs)).map Fl.out).take j20 ++ (⟨b, f.dat, f.syn⟩ : SF) :: ((era Fl.nm b (era Fl.nm a d.fs)).map Fl.out).drop j20 = (ins Fl.nm { f with nm := b } (era Fl.nm b (era Fl.nm a d.fs))).map Fl.out := put_files (x := { f with nm := b }) hlk HJ.out HL1.out HL2.out
        have hR := HR20.out
        rw [e20] at hR
        have hcF : Chg F w w20 := C19'.out.trans HC20.out (fun k hk => .inl (.inl hk)) |>.trans (Chg.refl (fun _ => False) _) (fun _ h => h.elim) |> fun h => ⟨h.os, h.tape, h.output, h.size, fun k hk hn => h.block k hk (fun e => e.elim (fun e => hn (e ▸ HI.out.fp)) (fun e => by omega))⟩
        refine ⟨rfl, ⟨v20, ?_⟩, hcF⟩
        simp only [← E18.out]
        refine hR.wide (fun k hk => ?_) (Gr.lt HI.out.lt hcF.size)
        rcases hk with hk | hk
        · rcases H17g.out k hk with h1 | h1
          · exact .inl h1
          · exact .inr ⟨h1.1, Nat.lt_of_lt_of_le (H19'.out.lt k hk) HC20.out.size⟩
        · exact .inr ⟨Nat.le_trans C19'.out.size hk.1, hk.2⟩
      · have t3 : (la17.toList == a.toList) = false := by rw [tl_beq]; exact decide_eq_false hlx
        have HLX := Lib.hid hlx
        clear hlx
        go_upto_region 20 with fail
        obtain ⟨w18, hw18⟩ : ∃ x, x = w17 := ⟨_, rfl⟩
        obtain ⟨la18, hl18⟩ : ∃ x, x = la17 := ⟨_, rfl⟩
        have H18 : RefIs w18 G17 p v17 ((era Fl.nm b (era Fl.nm a d.fs)).map Fl.out) (tick d).2.armed (tick d).2.down la18 := by
          rw [hw18, hl18]
          exact H17.out
        have C18 : Chg (· = p) w17 w18 := by rw [hw18]; exact Chg.refl _ _
        have E18 : Hid (la18 = if d.last = a then b else if d.last = b then nil_ else d.last) := Lib.hid (by
          have h2 := ren_last HAN.out HAB.out H17l.out
          rw [if_neg HLX.out] at h2
          rw [hl18]
          exact h2)
        rw [← hw18]
        clear hw18 hl18
        have hb18 := (C18.block q8 (blk_lt H17q.out) hqp).trans H17q.out
        have H19 : RefIs (w18.setCell ⟨q8, 0, none⟩ (.string b)) G17 p v17 ((era Fl.nm b (era Fl.nm a d.fs)).map Fl.out) (tick d).2.armed (tick d).2.down la18 := H18.stay (by simp [World.setCell]) (fun k hk => Below.heap_setCell w18 ⟨q8, 0, none⟩ (.string b) k (fun e => H17n.out ((show k = q8 from e) ▸ hk)))
        have B19 := sb_set hb18 0 (.string b)
        simp at B19
        have F19 : Kd.F (Kd.int .u8) (w18.setCell ⟨q8, 0, none⟩ (.string b)) (fun k => G17 k ∧ k ≠ p) A4 f.dat.length f.dat := Kd.F_far (Kd.F_step H17f.out (fun k hk hlt => C18.block k hlt hk.2)) (p := ⟨q8, 0, none⟩) (fun k hk e => H17n.out ((show k = q8 from e) ▸ hk.1)) _
        have C19 : Chg (fun k => k = p ∨ w.heap.size ≤ k) w (w18.setCell ⟨q8, 0, none⟩ (.string b)) := ((H17c.out.same C18).mono (fun k hk => .inl hk)).same (Chg.setCell (F := fun k => k = p ∨ w.heap.size ≤ k) w18 (p := ⟨q8, 0, none⟩) (.inr (by have := HW0.out; have := HC1.out.size; have := HC2.out.size; show w.heap.size ≤ q8; omega)) _)
        obtain ⟨w19, hw19⟩ : ∃ x, x = w18.setCell ⟨q8, 0, none⟩ (.string b) := ⟨_, rfl⟩
        rw [← hw19] at H19 B19 F19 C19 ⊢
        clear hw19 hb18 b3' f3' z0 z1 z2 r0
        have y0 := sb_cell B19 0
        have y1 := sb_cell B19 1
        have y2 := sb_cell B19 2
        simp at y0 y1 y2
        have H19' := Lib.hid H19
        have F19' := Lib.hid F19
        have C19' := Lib.hid C19
        have hfin : ((era Fl.nm b (era Fl.nm a d.fs)).map Fl.out).length ≤ 1048576 := by
          have h1 := HCn.out
          have h2 : (era Fl.nm b (era Fl.nm a d.fs)).length ≤ (era Fl.nm a d.fs).length := List.length_filter_le _ _
          rw [List.length_map] at h1 ⊢
          omega
        have HFin := Lib.hid hfin
        clear H19 B19 F19 C19 H18 C18 hfin
        go_wp2_with (go_at_call 39; refine (rput_calls (by exact H19'.out) ⟨b, f.dat, f.syn⟩ A4 c4 (by exact HC4.out) (by exact F19'.out) (by exact HFin.out)).mono ?_; rintro e w20 ⟨rfl, v20, j20, hR20, hc20, hj20, hl1, hl2⟩; have HR20 := Lib.hid hR20; have HC20 := Lib.hid hc20; have HJ := Lib.hid hj20; have HL1 := Lib.hid hl1; have HL2 := Lib.hid hl2; clear hR20 hc20 hj20 hl1 hl2)
        go_ret
        rw [HR2.out]
        have hlk : look Fl.nm b (era Fl.nm b (era Fl.nm a d.fs)) = none := look_none.2 (fun y hy => (mem_era.1 hy).2)
        have e20 : ((era Fl.nm b (era Fl.nm a d.fs)).map Fl.out).take j20 ++ (⟨b, f.dat, f.syn⟩ : SF) :: ((era Fl.nm b (era Fl.nm a d.fs)).map Fl.out).drop j20 = (ins Fl.nm { f with nm := b } (era Fl.nm b (era Fl.nm a d.fs))).map Fl.out := put_files (x := { f with nm := b }) hlk HJ.out HL1.out HL2.out
        have hR := HR20.out
        rw [e20] at hR
        have hcF : Chg F w w20 := C19'.out.trans HC20.out (fun k hk => .inl (.inl hk)) |>.trans (Chg.refl (fun _ => False) _) (fun _ h => h.elim) |> fun h => ⟨h.os, h.tape, h.output, h.size, fun k hk hn => h.block k hk (fun e => e.elim (fun e => hn (e ▸ HI.out.fp)) (fun e => by omega))⟩
        refine ⟨rfl, ⟨v20, ?_⟩, hcF⟩
        simp only [← E18.out]
        refine hR.wide (fun k hk => ?_) (Gr.lt HI.out.lt hcF.size)
        rcases hk with hk | hk
        · rcases H17g.out k hk with h1 | h1
          · exact .inl h1
          · exact .inr ⟨h1.1, Nat.lt_of_lt_of_le (H19'.out.lt k hk) HC20.out.size⟩
        · exact .inr ⟨Nat.le_trans C19'.out.size hk.1, hk.2⟩
    · have t2 : (d.last.toList == b.toList) = false := by rw [tl_beq]; exact decide_eq_false hlb
      have HLB := Lib.hid hlb
      clear hlb
      go_upto_region 17 with (first
        | (go_at_call 37; refine (rat_someL (by exact HR8.out) (by exact HCn.out) (by exact HPB.out)).mono ?_; rintro e w' ⟨rfl, rfl⟩)
        | (go_at_call 62; refine (rtake_fl (by exact HR8.out) (by exact HSr.out) (by exact HCn.out) (by exact HPB.out) (by exact HJF.out)).mono ?_; rintro e w3 ⟨A6, c6, v3, rfl, -, -, hR3, hc3⟩; clear b3 f3; have b3 := sb_cell hR3.blk 3; have f3 := sb_free hR3.blk 3; simp at b3; have HR3 := Lib.hid hR3; have HC3 := Lib.hid hc3; clear hR3 hc3))
      obtain ⟨w17, hw17⟩ : ∃ x, x = w3 := ⟨_, rfl⟩
      obtain ⟨G17, hG17⟩ : ∃ x, x = Gr G2 W8 w3 := ⟨_, rfl⟩
      obtain ⟨v17, hv17⟩ : ∃ x, x = v3 := ⟨_, rfl⟩
      obtain ⟨la17, hl17⟩ : ∃ x, x = d.last := ⟨_, rfl⟩
      have hc17 : Chg (· = p) w3 w17 := by rw [hw17]; exact Chg.refl _ _
      have hq3 : q8 ≠ p := fun e => HN8.out (e ▸ HR8.out.fp)
      have H17 : Hid (RefIs w17 G17 p v17 ((era Fl.nm b (era Fl.nm a d.fs)).map Fl.out) (tick d).2.armed (tick d).2.down la17) := Lib.hid (by
        rw [hG17, hv17, hl17]
        refine HR3.out.head ?_ hc17
        rw [hw17]
        exact HR3.out.blk)
      have H17q : Hid (w17.heap[q8]? = some (.cells #[.string f.nm, .slice A4 f.dat.length c4, .int .i64 f.syn] 36 (0, 0))) := Lib.hid (((HC3.out.same hc17).block q8 (blk_lt HB8.out) hq3).trans HB8.out)
      have H17n : Hid (¬ G17 q8) := Lib.hid (by
        rw [hG17]
        rintro (h1 | h1)
        · exact HN8.out h1
        · have := HQ8.out
          omega)
      have H17f : Hid (Kd.F (Kd.int .u8) w17 (fun k => G17 k ∧ k ≠ p) A4 f.dat.length f.dat) := Lib.hid (by
        rw [hG17]
        exact Kd.F_mono (Kd.F_step HF8.out (fun k hk hlt => (HC3.out.same hc17).block k hlt hk.2)) (fun k hk => ⟨.inl hk.1, hk.2⟩))
      have H17c : Hid (Chg (· = p) w w17) := Lib.hid ((HC8.out.same HC3.out).same hc17)
      have H17g : Hid (∀ k, G17 k → Gr F w w17 k) := Lib.hid (by
        rw [hG17]
        rintro k (h1 | h1)
        · rcases HG8.out k h1 with h2 | h2
          · exact .inl h2
          · exact .inr ⟨h2.1, by have := h2.2; have := HC3.out.size; have := hc17.size; omega⟩
        · exact .inr ⟨Nat.le_trans HC8.out.size h1.1, by have := h1.2; have := hc17.size; omega⟩)
      have H17l : Hid (la17 = if d.last = b then nil_ else d.last) := Lib.hid (by rw [hl17, if_neg HLB.out])
      rw [← hw17]
      clear hw17 hG17 hv17 hl17 hc17 hq3 b3 f3
      -- here: w17 (the world), G17, v17, la17 and H17 .. H17g
      have b3' := sb_cell H17.out.blk 3
      have f3' := sb_free H17.out.blk 3
      have z0 := sb_cell H17q.out 0
      have z1 := sb_cell H17q.out 1
      have z2 := sb_cell H17q.out 2
      have r0 := sb_free H17q.out 0
      simp at b3' z0 z1 z2
      have hqp : q8 ≠ p := fun e => H17n.out (e ▸ H17.out.fp)
      by_cases hlx : la17 = a
      · have t3 : (la17.toList == a.toList) = true := by rw [tl_beq]; exact decide_eq_true hlx
        have HLX := Lib.hid hlx
        clear hlx
        go_upto_region 20 with fail
        obtain ⟨w18, hw18⟩ : ∃ x, x = w17.setCell ⟨p, 3, none⟩ (.string b) := ⟨_, rfl⟩
        obtain ⟨la18, hl18⟩ : ∃ x, x = b := ⟨_, rfl⟩
        have H18 : RefIs w18 G17 p v17 ((era Fl.nm b (era Fl.nm a d.fs)).map Fl.out) (tick d).2.armed (tick d).2.down la18 := by
          rw [hw18, hl18]
          refine H17.out.head ?_ (Chg.setCell (F := (· = p)) w17 (p := ⟨p, 3, none⟩) rfl (.string b))
          have h2 := sb_set H17.out.blk 3 (.string b)
          simpa using h2
        have C18 : Chg (· = p) w17 w18 := by rw [hw18]; exact Chg.setCell (F := (· = p)) w17 (p := ⟨p, 3, none⟩) rfl (.string b)
        have E18 : Hid (la18 = if d.last = a then b else if d.last = b then nil_ else d.last) := Lib.hid (by
          have h2 := ren_last HAN.out HAB.out H17l.out
          rw [if_pos HLX.out] at h2
          rw [hl18]
          exact h2)
        rw [← hw18]
        clear hw18 hl18
        have hb18 := (C18.block q8 (blk_lt H17q.out) hqp).trans H17q.out
        have H19 : RefIs (w18.setCell ⟨q8, 0, none⟩ (.string b)) G17 p v17 ((era Fl.nm b (era Fl.nm a d.fs)).map Fl.out) (tick d).2.armed (tick d).2.down la18 := H18.stay (by simp [World.setCell]) (fun k hk => Below.heap_setCell w18 ⟨q8, 0, none⟩ (.string b) k (fun e => H17n.out ((show k = q8 from e) ▸ hk)))
        have B19 := sb_set hb18 0 (.string b)
        simp at B19
        have F19 : Kd.F (Kd.int .u8) (w18.setCell ⟨q8, 0, none⟩ (.string b)) (fun k => G17 k ∧ k ≠ p) A4 f.dat.length f.dat := Kd.F_far (Kd.F_step H17f.out (fun k hk hlt => C18.block k hlt hk.2)) (p := ⟨q8, 0, none⟩) (fun k hk e => H17n.out ((show k = q8 from e) ▸ hk.1)) _
        have C19 : Chg (fun k => k = p ∨ w.heap.size ≤ k) w (w18.setCell ⟨q8, 0, none⟩ (.string b)) := ((H17c.out.same C18).mono (fun k hk => .inl hk)).same (Chg.setCell (F := fun k => k = p ∨ w.heap.size ≤ k) w18 (p := ⟨q8, 0, none⟩) (.inr (by have := HW0.out; have := HC1.out.size; have := HC2.out.size; show w.heap.size ≤ q8; omega)) _)
        obtain ⟨w19, hw19⟩ : ∃ x, x = w18.setCell ⟨q8, 0, none⟩ (.string b) := ⟨_, rfl⟩
        rw [← hw19] at H19 B19 F19 C19 ⊢
        clear hw19 hb18 b3' f3' z0 z1 z2 r0
        have y0 := sb_cell B19 0
        have y1 := sb_cell B19 1
        have y2 := sb_cell B19 2
        simp at y0 y1 y2
        have H19' := Lib.hid H19
        have F19' := Lib.hid F19
        have C19' := Lib.hid C19
        have hfin : ((era Fl.nm b (era Fl.nm a d.fs)).map Fl.out).length ≤ 1048576 := by
          have h1 := HCn.out
          have h2 : (era Fl.nm b (era Fl.nm a d.fs)).length ≤ (era Fl.nm a d.fs).length := List.length_filter_le _ _
          rw [List.length_map] at h1 ⊢
          omega
        have HFin := Lib.hid hfin
        clear H19 B19 F19 C19 H18 C18 hfin
        go_wp2_with (go_at_call 39; refine (rput_calls (by exact H19'.out) ⟨b, f.dat, f.syn⟩ A4 c4 (by exact HC4.out) (by exact F19'.out) (by exact HFin.out)).mono ?_; rintro e w20 ⟨rfl, v20, j20, hR20, hc20, hj20, hl1, hl2⟩; have HR20 := Lib.hid hR20; have HC20 := Lib.hid hc20; have HJ := Lib.hid hj20; have HL1 := Lib.hid hl1; have HL2 := Lib.hid hl2; clear hR20 hc20 hj20 hl1 hl2)
        go_ret
        rw [HR2.out]
        have hlk : look Fl.nm b (era Fl.nm b (era Fl.nm a d.fs)) = none := look_none.2 (fun y hy => (mem_era.1 hy).2)
        have e20 : ((era Fl.nm b (era Fl.nm a d.fs)).map Fl.out).take j20 ++ (⟨b, f.dat, f.syn⟩ : SF) :: ((era Fl.nm b (era Fl.nm a d.fs)).map Fl.out).drop j20 = (ins Fl.nm { f with nm := b } (era Fl.nm b (era Fl.nm a d.fs))).map Fl.out := put_files (x := { f with nm := b }) hlk HJ.out HL1.out HL2.out
        have hR := HR20.out
        rw [e20] at hR
        have hcF : Chg F w w20 := C19'.out.trans HC20.out (fun k hk => .inl (.inl hk)) |>.trans (Chg.refl (fun _ => False) _) (fun _ h => h.elim) |> fun h => ⟨h.os, h.tape, h.output, h.size, fun k hk hn => h.block k hk (fun e => e.elim (fun e => hn (e ▸ HI.out.fp)) (fun e => by omega))⟩
        refine ⟨rfl, ⟨v20, ?_⟩, hcF⟩
        simp only [← E18.out]
        refine hR.wide (fun k hk => ?_) (Gr.lt HI.out.lt hcF.size)
        rcases hk with hk | hk
        · rcases H17g.out k hk with h1 | h1
          · exact .inl h1
          · exact .inr ⟨h1.1, Nat.lt_of_lt_of_le (H19'.out.lt k hk) HC20.out.size⟩
        · exact .inr ⟨Nat.le_trans C19'.out.size hk.1, hk.2⟩
      · have t3 : (la17.toList == a.toList) = false := by rw [tl_beq]; exact decide_eq_false hlx
        have HLX := Lib.hid hlx
        clear hlx
        go_upto_region 20 with fail
        obtain ⟨w18, hw18⟩ : ∃ x, x = w17 := ⟨_, rfl⟩
        obtain ⟨la18, hl18⟩ : ∃ x, x = la17 := ⟨_, rfl⟩
        have H18 : RefIs w18 G17 p v17 ((era Fl.nm b (era Fl.nm a d.fs)).map Fl.out) (tick d).2.armed (tick d).2.down la18 := by
          rw [hw18, hl18]
          exact H17.out
        have C18 : Chg (· = p) w17 w18 := by rw [hw18]; exact Chg.refl _ _
        have E18 : Hid (la18 = if d.last = a then b else if d.last = b then nil_ else d.last) := Lib.hid (by
          have h2 := ren_last HAN.out HAB.out H17l.out
          rw [if_neg HLX.out] at h2
          rw [hl18]
          exact h2)
        rw [← hw18]
        clear hw18 hl18
        have hb18 := (C18.block q8 (blk_lt H17q.out) hqp).trans H17q.out
        have H19 : RefIs (w18.setCell ⟨q8, 0, none⟩ (.string b)) G17 p v17 ((era Fl.nm b (era Fl.nm a d.fs)).map Fl.out) (tick d).2.armed (tick d).2.down la18 := H18.stay (by simp [World.setCell]) (fun k hk => Below.heap_setCell w18 ⟨q8, 0, none⟩ (.string b) k (fun e => H17n.out ((show k = q8 from e) ▸ hk)))
        have B19 := sb_set hb18 0 (.string b)
        simp at B19
        have F19 : Kd.F (Kd.int .u8) (w18.setCell ⟨q8, 0, none⟩ (.string b)) (fun k => G17 k ∧ k ≠ p) A4 f.dat.length f.dat := Kd.F_far (Kd.F_step H17f.out (fun k hk hlt => C18.block k hlt hk.2)) (p := ⟨q8, 0, none⟩) (fun k hk e => H17n.out ((show k = q8 from e) ▸ hk.1)) _
        have C19 : Chg (fun k => k = p ∨ w.heap.size ≤ k) w (w18.setCell ⟨q8, 0, none⟩ (.string b)) := ((H17c.out.same C18).mono (fun k hk => .inl hk)).same (Chg.setCell (F := fun k => k = p ∨ w.heap.size ≤ k) w18 (p := ⟨q8, 0, none⟩) (.inr (by have := HW0.out; have := HC1.out.size; have := HC2.out.size; show w.heap.size ≤ q8; omega)) _)
        obtain ⟨w19, hw19⟩ : ∃ x, x = w18.setCell ⟨q8, 0, none⟩ (.string b) := ⟨_, rfl⟩
        rw [← hw19] at H19 B19 F19 C19 ⊢
        clear hw19 hb18 b3' f3' z0 z1 z2 r0
        have y0 := sb_cell B19 0
        have y1 := sb_cell B19 1
        have y2 := sb_cell B19 2
        simp at y0 y1 y2
        have H19' := Lib.hid H19
        have F19' := Lib.hid F19
        have C19' := Lib.hid C19
        have hfin : ((era Fl.nm b (era Fl.nm a d.fs)).map Fl.out).length ≤ 1048576 := by
          have h1 := HCn.out
          have h2 : (era Fl.nm b (era Fl.nm a d.fs)).length ≤ (era Fl.nm a d.fs).length := List.length_filter_le _ _
          rw [List.length_map] at h1 ⊢
          omega
        have HFin := Lib.hid hfin
        clear H19 B19 F19 C19 H18 C18 hfin
        go_wp2_with (go_at_call 39; refine (rput_calls (by exact H19'.out) ⟨b, f.dat, f.syn⟩ A4 c4 (by exact HC4.out) (by exact F19'.out) (by exact HFin.out)).mono ?_; rintro e w20 ⟨rfl, v20, j20, hR20, hc20, hj20, hl1, hl2⟩; have HR20 := Lib.hid hR20; have HC20 := Lib.hid hc20; have HJ := Lib.hid hj20; have HL1 := Lib.hid hl1; have HL2 := Lib.hid hl2; clear hR20 hc20 hj20 hl1 hl2)
        go_ret
        rw [HR2.out]
        have hlk : look Fl.nm b (era Fl.nm b (era Fl.nm a d.fs)) = none := look_none.2 (fun y hy => (mem_era.1 hy).2)
        have e20 : ((era Fl.nm b (era Fl.nm a d.fs)).map Fl.out).take j20 ++ (⟨b, f.dat, f.syn⟩ : SF) :: ((era Fl.nm b (era Fl.nm a d.fs)).map Fl.out).drop j20 = (ins Fl.nm { f with nm := b } (era Fl.nm b (era Fl.nm a d.fs))).map Fl.out := put_files (x := { f with nm := b }) hlk HJ.out HL1.out HL2.out
        have hR := HR20.out
        rw [e20] at hR
        have hcF : Chg F w w20 := C19'.out.trans HC20.out (fun k hk => .inl (.inl hk)) |>.trans (Chg.refl (fun _ => False) _) (fun _ h => h.elim) |> fun h => ⟨h.os, h.tape, h.output, h.size, fun k hk hn => h.block k hk (fun e => e.elim (fun e => hn (e ▸ HI.out.fp)) (fun e => by omega))⟩
        refine ⟨rfl, ⟨v20, ?_⟩, hcF⟩
        simp only [← E18.out]
        refine hR.wide (fun k hk => ?_) (Gr.lt HI.out.lt hcF.size)
        rcases hk with hk | hk
        · rcases H17g.out k hk with h1 | h1
          · exact .inl h1
          · exact .inr ⟨h1.1, Nat.lt_of_lt_of_le (H19'.out.lt k hk) HC20.out.size⟩
        · exact .inr ⟨Nat.le_trans C19'.out.size hk.1, hk.2⟩
end
end Go.Proofs.Ytflajlnknimjaaa.Dk

/- The reference's Sync, Cut. -/
namespace Go.Proofs.Ytflajlnknimjaaa.Dk
open Go.RowKit Go.Maps Go.Proofs.YtflajlnknimjaaaW.PrintWords Go.Proofs.YtflajlnknimjaaaW.PrintMore Go.Proofs.YtflajlnknimjaaaW.PrintLast Go.Proofs.Ytflajlnknimjaaa.Syn Go.Proofs.Ytflajlnknimjaaa.PDiskLoads
set_option linter.unusedVariables false
set_option linter.unusedSimpArgs false
attribute [local go_sem] max2_int min2_int max_two min_two

def rsyncT : Bool × List (List Nat × List Nat) := (true, [([], []), ([0], [0]), ([1], [1]), ([2], [2]), ([], []), ([], []), ([5], [5]), ([6], [6]), ([7], [7]), ([], []), ([8, 9], [8, 9]), ([10], [10]), ([11], [11]), ([12], [12]), ([3, 4, 0, 1, 2, 3, 4, 5, 6, 7, 8, 9, 10, 11, 12, 13], [3, 4]), ([14, 0, 1, 2, 3, 4, 5, 6, 7, 8, 9, 10, 11, 12, 13], [14]), ([15, 13, 0, 1, 2, 3, 4, 5, 6, 7, 8, 9, 10, 11, 12, 13], [13, 15])])
def rsyncTB : List Nat := [0, 1, 3, 7, 0, 0, 32, 96, 224, 0, 992, 2016, 4064, 8160, 16383, 32767, 65535]
theorem rsyncT_tab : rtab .any (opsOf Try.f50 8) = rsyncT := by kernel_rfl
theorem rsyncT_bits : waitsOk rsyncT.2 rsyncTB = true := by kernel_rfl

theorem cell_off (w : World) (g i j : Nat) (u : Value) (h : i ≠ j) : (w.setCell ⟨g, i, none⟩ u).cell? ⟨g, j, none⟩ = w.cell? ⟨g, j, none⟩ := by
  unfold World.cell? World.setCell
  simp only [Array.getElem?_modify]
  cases w.heap[g]? with
  | none => simp
  | some o => cases o <;> simp [h]
theorem bytes_f (ys : List Int) (hy : ys.length ≤ 1099511627776) : synodref_Bytes.f ys = some ys := by
  unfold synodref_Bytes.f
  simp only [Option.bind_some, List.length_nil, List.nil_append]
  rw [if_pos (by omega)]
theorem bytes_calls (A : Option Addr) (c : Nat) (ys : List Int) (w : World) (hx : Kd.C (Kd.int .u8) w A ys.length ys) (hc : ys.length ≤ c) (hy : ys.length ≤ 1099511627776) :
    Calls Try.prog 40 #[.slice A ys.length c] w fun e w' => ∃ v, e = .returned v ∧ Fresh w' w.heap.size v ys ∧ Below w.heap.size w w' :=
  synodref_Bytes.calls A c ys ys w hx hc (bytes_f ys hy)
theorem fresh_foot {w w' : World} {v : Value} {ys : List Int} (h : Fresh w' w.heap.size v ys) : ∃ A c, v = .slice A ys.length c ∧ ys.length ≤ c ∧ Kd.F (Kd.int .u8) w' (fun k => w.heap.size ≤ k ∧ k < w'.heap.size) A ys.length ys := by
  obtain ⟨A, c, hv, hc, _⟩ := Kd.R_reads h
  subst hv
  exact ⟨A, c, rfl, hc, Kd.R_F (R_new h)⟩
section
variable {w : World} {F : Nat → Prop} {p g c i : Nat} {l : List SF} {ar : Nat} {dn : Bool} {la : ByteArray}
theorem RefIs.at {v : Value} (h : RefIs w F p v l ar dn la) {f : SF} (hf : l[i]? = some f) : ∃ g c A4 c4, v = .slice (some ⟨g, 0, none⟩) l.length c ∧ l.length ≤ c ∧ F g ∧ g ≠ p ∧ f.f1.length ≤ c4 ∧ Kd.F (Kd.int .u8) w (fun k => (F k ∧ k ≠ p) ∧ k ≠ g) A4 f.f1.length f.f1 ∧
    w.cell? ⟨g, i * 3, none⟩ = some (.string f.f0) ∧ w.cell? ⟨g, i * 3 + 1, none⟩ = some (.slice A4 f.f1.length c4) ∧ w.cell? ⟨g, i * 3 + 2, none⟩ = some (.int .i64 f.f2) ∧ ∀ j, w.frozen? ⟨g, i * 3 + j, none⟩ = false := by
  obtain ⟨hi, rfl⟩ := List.getElem?_eq_some_iff.1 hf
  exact h.elem hi
theorem RefIs.put2 (h : RefIs w F p (.slice (some ⟨g, 0, none⟩) l.length c) l ar dn la) {f : SF} (hf : l[i]? = some f) (s : Int) :
    RefIs (w.setCell ⟨g, i * 3 + 2, none⟩ (.int .i64 s)) F p (.slice (some ⟨g, 0, none⟩) l.length c) (l.set i { f with f2 := s }) ar dn la := by
  obtain ⟨hi, rfl⟩ := List.getElem?_eq_some_iff.1 hf
  obtain ⟨g', c', A4, c4, hv, hlc, hFg, hgp, hl4, hF4, x0, x1, x2, hfz⟩ := h.elem hi
  have hgg : g = g' := by injection hv with e1; injection e1 with e1; injection e1
  subst hgg
  have h1 := Kd.N_seg h.row (i : Int) (by omega) (by omega) (c := [.string l[i].f0, .slice A4 l[i].f1.length c4, .int .i64 l[i].f2]) (seg := [.int .i64 s]) (j := 2) rfl (fun j u hu => by
    rcases j with _ | _ | _ | j
    · simp at hu; subst hu; exact x0
    · simp at hu; subst hu; exact x1
    · simp at hu; subst hu; exact x2
    · simp at hu) (by show 2 + 1 ≤ 3; omega) (x' := { l[i] with f2 := s }) (okp := fun k => (F k ∧ k ≠ p) ∧ k ≠ g) (FKF_mk (f := { l[i] with f2 := s }) hl4 hF4) (fun k hk => hk)
  simp only [Int.toNat_natCast] at h1
  have hn := h1.1
  refine ⟨(Below.heap_setCell w ⟨g, i * 3 + 2, none⟩ _ p (fun e => hgp e.symm)).trans h.blk, h.fp, hn, fun k hk => ?_⟩
  have := h.lt k hk
  simpa [World.setCell] using this
theorem RefIs.put1 (h : RefIs w F p (.slice (some ⟨g, 0, none⟩) l.length c) l ar dn la) {f : SF} (hf : l[i]? = some f) {A : Option Addr} {cc : Nat} {ys : List Int} (hc : ys.length ≤ cc) (hF : Kd.F (Kd.int .u8) w (fun k => (F k ∧ k ≠ p) ∧ k ≠ g) A ys.length ys) :
    RefIs (w.setCell ⟨g, i * 3 + 1, none⟩ (.slice A ys.length cc)) F p (.slice (some ⟨g, 0, none⟩) l.length c) (l.set i { f with f1 := ys }) ar dn la := by
  obtain ⟨hi, rfl⟩ := List.getElem?_eq_some_iff.1 hf
  obtain ⟨g', c', A4, c4, hv, hlc, hFg, hgp, hl4, hF4, x0, x1, x2, hfz⟩ := h.elem hi
  have hgg : g = g' := by injection hv with e1; injection e1 with e1; injection e1
  subst hgg
  have h1 := Kd.N_seg h.row (i : Int) (by omega) (by omega) (c := [.string l[i].f0, .slice A4 l[i].f1.length c4, .int .i64 l[i].f2]) (seg := [.slice A ys.length cc]) (j := 1) rfl (fun j u hu => by
    rcases j with _ | _ | _ | j
    · simp at hu; subst hu; exact x0
    · simp at hu; subst hu; exact x1
    · simp at hu; subst hu; exact x2
    · simp at hu) (by show 1 + 1 ≤ 3; omega) (x' := { l[i] with f1 := ys }) (okp := fun k => (F k ∧ k ≠ p) ∧ k ≠ g) (FKF_mk (f := { l[i] with f1 := ys }) hc hF) (fun k hk => hk)
  simp only [Int.toNat_natCast] at h1
  have hn := h1.1
  refine ⟨(Below.heap_setCell w ⟨g, i * 3 + 1, none⟩ _ p (fun e => hgp e.symm)).trans h.blk, h.fp, hn, fun k hk => ?_⟩
  have := h.lt k hk
  simpa [World.setCell] using this
end
theorem set_files {l : List Fl} {nm : ByteArray} {i : Nat} (hs : Srt Fl.nm l) (hp : pos nm l = some i) {f : Fl} (g : Fl → Fl) (hf : l[i]? = some f) {y : SF} (hy : y = (g f).out) : (l.map Fl.out).set i y = (upd nm g l).map Fl.out := by
  obtain ⟨hi, rfl⟩ := List.getElem?_eq_some_iff.1 hf
  obtain ⟨hi', hn⟩ := pos_some hp
  rw [upd_set hs hi hn, List.map_set, hy]
theorem file_at {d : St} {i : Nat} {f : Fl} (hf : d.fs[i]? = some f) : (filesOf d)[i]? = some f.out := by
  rw [filesOf, List.getElem?_map, hf]
  rfl

section
variable {F : Nat → Prop} {p : Nat} {w w1 : World} {v : Value} {d : St}
theorem RPost.of {r : Int} {fs : List Fl} {la : ByteArray} {d' : St} (h : RefIs w1 F p v (fs.map Fl.out) d'.armed d'.down la) (hF : ∀ k, F k → k < w.heap.size) (hc : Chg F w w1) (hl : la = d'.last) : RPost F p w (r, { d' with fs := fs }) (.returned (.int .i64 r)) w1 := by
  subst hl
  exact ⟨rfl, ⟨v, h.wide (fun _ h => .inl h) (Gr.lt hF hc.size)⟩, hc⟩
set_option maxRecDepth 100000 in
set_option maxHeartbeats 1000000 in
theorem rsync_calls (nm : ByteArray) (h : RefAt w F p d) (ok : d.Ok) :
    Calls Try.prog 50 #[ptr p, .string nm] w (RPost F p w (d.sync nm)) := by
  have h' := h
  obtain ⟨v, hI⟩ := h
  have b2 := sb_cell hI.blk 2
  simp at b2
  have HI := Lib.hid hI
  have HA := Lib.hid ok
  have HH := Lib.hid h'
  clear hI h'
  generalize hr : d.sync nm = r
  unfold St.sync at hr
  by_cases hd : d.down = true
  · rw [if_pos hd] at hr
    rw [hd] at b2
    have HR := Lib.hid hr
    clear hr hd ok
    go_enter Try.func50, Try.ntmps50
    go_wp2
    go_ret
    rw [← HR.out]
    exact RPost.same HH.out 0
  rw [if_neg hd] at hr
  have hd' : d.down = false := by simpa using hd
  rw [hd'] at b2
  cases hp : pos nm d.fs with
  | none =>
    have hlk := pos_none.1 hp
    rw [hlk] at hr
    have HR := Lib.hid hr
    have HPs := Lib.hid hp
    clear hr hd hd' ok hp hlk
    go_enter Try.func50, Try.ntmps50
    go_wp2_with (go_at_call 37; refine (rat_none (by exact HI.out) (by exact HA.out) (by exact HPs.out)).mono ?_; rintro e w' ⟨rfl, rfl⟩)
    go_ret
    rw [← HR.out]
    exact RPost.same HH.out 0
  | some i =>
  obtain ⟨hi, hin⟩ := pos_some hp
  have hlk := pos_look ok.srt hp hi
  rw [hlk] at hr
  simp only at hr
  have HPs := Lib.hid hp
  have hil := pos_len hp
  have HIL := Lib.hid hil
  have hi0 : (0 : Int) ≤ (i : Int) := by omega
  cases ht : (tick d).1 with
  | true =>
    rw [ht, if_pos rfl] at hr
    have HR := Lib.hid hr
    have HT := Lib.hid ht
    clear hr hd hd' ok hp hi hin hlk ht hil
    go_enter Try.func50, Try.ntmps50
    go_wp2_with (first
      | (go_at_call 37; refine (rat_some (by exact HI.out) (by exact HA.out) (by exact HPs.out)).mono ?_; rintro e w' ⟨rfl, rfl⟩)
      | (go_at_call 38; refine (rtick_calls p _ _ d.last d.armed d.down d rfl rfl HA.out.armed (by exact HI.out.blk)).mono ?_; rintro e w1 ⟨rfl, hb1, hs1, hc1⟩; rw [HT.out]; have HX := Lib.hid hb1; clear hb1))
    go_ret
    rw [← HR.out]
    exact RPost.ticked (nd := 0) HI.out HX.out hc1
  | false =>
    rw [ht, if_neg (by simp)] at hr
    have HT := Lib.hid ht
    have HR := Lib.hid hr
    obtain ⟨f, hf⟩ : ∃ f, d.fs[i]? = some f := ⟨_, List.getElem?_eq_getElem hi⟩
    have HFI := Lib.hid hf
    have hdl : (f.dat.length : Int) ≤ 16777216 := by have h1 := total_mem (List.mem_of_getElem? hf); have := ok.tot; omega
    have hill : ((i : Nat) : Int) < ((filesOf d).length : Int) := by omega
    have hfsl : ((filesOf d).length : Int) ≤ 1048576 := by have := files_short ok; omega
    clear hr hd hd' ok hp hi hin hlk ht hil hf
    go_enter Try.func50, Try.ntmps50
    go_upto_region 8 with (first
      | (go_at_call 37; refine (rat_some (by exact HI.out) (by exact HA.out) (by exact HPs.out)).mono ?_; rintro e w' ⟨rfl, rfl⟩)
      | (go_at_call 38; refine (rtick_calls p _ _ d.last d.armed d.down d rfl rfl HA.out.armed (by exact HI.out.blk)).mono ?_; rintro e w1 ⟨rfl, hb1, hs1, hc1⟩; rw [HT.out]; have HX := Lib.hid (HI.out.head hb1 hc1); have HC1 := Lib.hid hc1; clear hb1 hs1 hc1))
    have hX6 := HX.out.below (below_drew (Below.refl _ _))
    obtain ⟨g, c, A4, c4, hv, hlc, hFg, hgp, hl4, hF4, x0, x1, x2, hfz⟩ := hX6.at (file_at HFI.out)
    rw [hv] at hX6
    have c0 := sb_cell hX6.blk 0
    simp at c0
    replace c0 : w1.drew.cell? ⟨p, 0, none⟩ = some (.slice (some ⟨g, 0, none⟩) (filesOf d).length c) := c0
    replace x1 : w1.drew.cell? ⟨g, i * 3 + 1, none⟩ = some (.slice A4 f.dat.length c4) := x1
    replace x2 : w1.drew.cell? ⟨g, i * 3 + 2, none⟩ = some (.int .i64 f.syn) := x2
    have HX6 := Lib.hid hX6
    have f2 := hfz 2
    have HFg := Lib.hid hFg
    have HC6 : Hid (Chg F w w1.drew) := Lib.hid ((HC1.out.mono (fun k hk => by rw [hk]; exact HI.out.fp)).same (Chg.drew _))
    have HGP := Lib.hid hgp
    clear hfz hX6 hl4 hF4 hlc x0
    refine start_ (n := 17) (S := fun w' => w'.cell? ⟨p, 0, none⟩ = some (.slice (some ⟨g, 0, none⟩) (filesOf d).length c) ∧ w'.cell? ⟨g, i * 3 + 1, none⟩ = some (.slice A4 f.dat.length c4)) (ds := []) #[false, false, false, false, false, false, false, false, false, false, false, false, false, false, false, false, false] (by kernel_rfl) rfl rfl ⟨c0, x1⟩ (fun hHeld => ?_)
    refine with_tabW rsyncT_tab rsyncT_bits (fun HT_ HW_ => ?_)
    generalize w1.drew = w6 at HX6 HC6 c0 x1 x2 f2 hHeld ⊢
    refine pure_ (i := 0) (N := (some 17)) (v := ?_) (a' := ?_) #[true, false, false, false, false, false, false, false, false, false, false, false, false, false, false, false, false] rfl rfl (any_of HT_.out (by kernel_rfl)) (fun _ _ _ h => h) (Or.inl ⟨by rfl, ?_⟩) ?_ ?_
    rotate_left
    · intro w'
      go_simp
      with_reducible rfl
    rotate_left
    · simp only [Act.put, List.setIfInBounds_toArray, List.set_cons_zero, List.set_cons_succ, i64_w, i32_w]
      rfl
    refine pure_ (i := 1) (N := (some 18)) (v := ?_) (a' := ?_) #[true, true, false, false, false, false, false, false, false, false, false, false, false, false, false, false, false] rfl rfl (any_of HT_.out (by kernel_rfl)) (fun _ _ _ h => h) (Or.inl ⟨by rfl, ?_⟩) ?_ ?_
    rotate_left
    · intro w'
      go_simp
      with_reducible rfl
    rotate_left
    · simp only [Act.put, List.setIfInBounds_toArray, List.set_cons_zero, List.set_cons_succ, i64_w, i32_w]
      rfl
    refine pure_ (i := 2) (N := (some 19)) (v := ?_) (a' := ?_) #[true, true, true, false, false, false, false, false, false, false, false, false, false, false, false, false, false] rfl rfl (any_of HT_.out (by kernel_rfl)) (fun _ _ _ h => h) (Or.inl ⟨by rfl, ?_⟩) ?_ ?_
    rotate_left
    · intro w'
      go_simp
      with_reducible rfl
    rotate_left
    · simp only [Act.put, List.setIfInBounds_toArray, List.set_cons_zero, List.set_cons_succ, i64_w, i32_w]
      rfl
    refine pure_ (i := 4) (N := (some 21)) (v := ?_) (a' := ?_) #[true, true, true, false, true, false, false, false, false, false, false, false, false, false, false, false, false] rfl rfl (any_of HT_.out (by kernel_rfl)) (fun _ _ _ h => h) (Or.inl ⟨by rfl, ?_⟩) ?_ ?_
    rotate_left
    · intro w'
      go_simp
      with_reducible rfl
    rotate_left
    · simp only [Act.put, List.setIfInBounds_toArray, List.set_cons_zero, List.set_cons_succ, i64_w, i32_w]
      rfl
    refine pure_ (i := 5) (N := (some 22)) (v := ?_) (a' := ?_) #[true, true, true, false, true, true, false, false, false, false, false, false, false, false, false, false, false] rfl rfl (any_of HT_.out (by kernel_rfl)) (fun _ _ _ h => h) (Or.inl ⟨by rfl, ?_⟩) ?_ ?_
    rotate_left
    · intro w'
      go_simp
      with_reducible rfl
    rotate_left
    · simp only [Act.put, List.setIfInBounds_toArray, List.set_cons_zero, List.set_cons_succ, i64_w, i32_w]
      rfl
    refine pure_ (i := 6) (N := (some 23)) (v := ?_) (a' := ?_) #[true, true, true, false, true, true, true, false, false, false, false, false, false, false, false, false, false] rfl rfl (any_of HT_.out (by kernel_rfl)) (fun _ _ _ h => h) (Or.inl ⟨by rfl, ?_⟩) ?_ ?_
    rotate_left
    · intro w'
      go_simp
      with_reducible rfl
    rotate_left
    · simp only [Act.put, List.setIfInBounds_toArray, List.set_cons_zero, List.set_cons_succ, i64_w, i32_w]
      rfl
    refine pure_ (i := 7) (N := (some 24)) (v := ?_) (a' := ?_) #[true, true, true, false, true, true, true, true, false, false, false, false, false, false, false, false, false] rfl rfl (any_of HT_.out (by kernel_rfl)) (fun _ _ _ h => h) (Or.inl ⟨by rfl, ?_⟩) ?_ ?_
    rotate_left
    · intro w'
      go_simp
      with_reducible rfl
    rotate_left
    · simp only [Act.put, List.setIfInBounds_toArray, List.set_cons_zero, List.set_cons_succ, i64_w, i32_w]
      rfl
    refine pure_ (i := 9) (N := (some 26)) (v := ?_) (a' := ?_) #[true, true, true, false, true, true, true, true, false, true, false, false, false, false, false, false, false] rfl rfl (any_of HT_.out (by kernel_rfl)) (fun _ _ _ h => h) (Or.inl ⟨by rfl, ?_⟩) ?_ ?_
    rotate_left
    · intro w'
      go_simp
      with_reducible rfl
    rotate_left
    · simp only [Act.put, List.setIfInBounds_toArray, List.set_cons_zero, List.set_cons_succ, i64_w, i32_w]
      rfl
    refine take_ (i := 3) (N := (some 20)) (v := ?_) (a' := ?_) #[true, true, true, true, true, true, true, true, false, true, false, false, false, false, false, false, false] rfl rfl (take_ofW HT_.out HW_.out (by kernel_rfl)) (fun _ _ _ h => h) (Or.inl ⟨by rfl, ?_⟩) hHeld ?_ ?_
    rotate_left
    · rintro w' ⟨s0, s1⟩
      go_simp
      with_reducible rfl
    rotate_left
    · simp only [Act.put, List.setIfInBounds_toArray, List.set_cons_zero, List.set_cons_succ, i64_w, i32_w]
      rfl
    refine take_ (i := 8) (N := (some 25)) (v := ?_) (a' := ?_) #[true, true, true, true, true, true, true, true, true, true, false, false, false, false, false, false, false] rfl rfl (take_ofW HT_.out HW_.out (by kernel_rfl)) (fun _ _ _ h => h) (Or.inl ⟨by rfl, ?_⟩) hHeld ?_ ?_
    rotate_left
    · rintro w' ⟨s0, s1⟩
      go_simp
      with_reducible rfl
    rotate_left
    · simp only [Act.put, List.setIfInBounds_toArray, List.set_cons_zero, List.set_cons_succ, i64_w, i32_w]
      rfl
    refine pure_ (i := 10) (N := (some 27)) (v := ?_) (a' := ?_) #[true, true, true, true, true, true, true, true, true, true, true, false, false, false, false, false, false] rfl rfl (any_of HT_.out (by kernel_rfl)) (fun _ _ _ h => h) (Or.inl ⟨by rfl, ?_⟩) ?_ ?_
    rotate_left
    · intro w'
      go_simp
      with_reducible rfl
    rotate_left
    · simp only [Act.put, List.setIfInBounds_toArray, List.set_cons_zero, List.set_cons_succ, i64_w, i32_w]
      rfl
    refine pure_ (i := 11) (N := (some 28)) (v := ?_) (a' := ?_) #[true, true, true, true, true, true, true, true, true, true, true, true, false, false, false, false, false] rfl rfl (any_of HT_.out (by kernel_rfl)) (fun _ _ _ h => h) (Or.inl ⟨by rfl, ?_⟩) ?_ ?_
    rotate_left
    · intro w'
      go_simp
      with_reducible rfl
    rotate_left
    · simp only [Act.put, List.setIfInBounds_toArray, List.set_cons_zero, List.set_cons_succ, i64_w, i32_w]
      rfl
    refine take_ (i := 12) (N := (some 29)) (v := ?_) (a' := ?_) #[true, true, true, true, true, true, true, true, true, true, true, true, true, false, false, false, false] rfl rfl (take_ofW HT_.out HW_.out (by kernel_rfl)) (fun _ _ _ h => h) (Or.inl ⟨by rfl, ?_⟩) hHeld ?_ ?_
    rotate_left
    · rintro w' ⟨s0, s1⟩
      go_simp
      with_reducible rfl
    rotate_left
    · simp only [Act.put, List.setIfInBounds_toArray, List.set_cons_zero, List.set_cons_succ, i64_w, i32_w]
      rfl
    refine pure_ (i := 13) (N := (some 30)) (v := ?_) (a' := ?_) #[true, true, true, true, true, true, true, true, true, true, true, true, true, true, false, false, false] rfl rfl (any_of HT_.out (by kernel_rfl)) (fun _ _ _ h => h) (Or.inl ⟨by rfl, ?_⟩) ?_ ?_
    rotate_left
    · intro w'
      go_simp
      with_reducible rfl
    rotate_left
    · simp only [Act.put, List.setIfInBounds_toArray, List.set_cons_zero, List.set_cons_succ, i64_w, i32_w]
      rfl
    refine pure_ (i := 14) (N := (some 31)) (v := ?_) (a' := ?_) #[true, true, true, true, true, true, true, true, true, true, true, true, true, true, true, false, false] rfl rfl (any_of HT_.out (by kernel_rfl)) (fun _ _ _ h => h) (Or.inl ⟨by rfl, ?_⟩) ?_ ?_
    rotate_left
    · intro w'
      go_simp
      with_reducible rfl
    rotate_left
    · simp only [Act.put, List.setIfInBounds_toArray, List.set_cons_zero, List.set_cons_succ, i64_w, i32_w]
      rfl
    refine pure_ (i := 15) (N := (some 32)) (v := ?_) (a' := ?_) #[true, true, true, true, true, true, true, true, true, true, true, true, true, true, true, true, false] rfl rfl (any_of HT_.out (by kernel_rfl)) (fun _ _ _ h => h) (Or.inl ⟨by rfl, ?_⟩) ?_ ?_
    rotate_left
    · intro w'
      go_simp
      with_reducible rfl
    rotate_left
    · simp only [Act.put, List.setIfInBounds_toArray, List.set_cons_zero, List.set_cons_succ, i64_w, i32_w]
      rfl
    refine one_ (i := 16) (N := none) #[true, true, true, true, true, true, true, true, true, true, true, true, true, true, true, true, true] rfl rfl (one_of HT_.out (by kernel_rfl)) (by decide) (fun K hK => ?_)
    refine skip_ (w1 := ?_) (by rfl) rfl ?_ ?_
    rotate_left
    · go_simp
      rfl
    refine hK.out _ _ ⟨(cell_far (fun e => HGP.out e.symm) _).trans c0, (cell_off _ _ _ _ _ (by omega)).trans x1⟩ (fun hHeld => ?_)
    clear hK K
    refine done_ (done_of HT_.out (by kernel_rfl)) ?_
    go_wp2
    go_ret
    rw [← HR.out]
    have hR := HX6.out.put2 (file_at HFI.out) (f.dat.length : Int)
    rw [filesOf, set_files (y := { f.out with f2 := (f.dat.length : Int) }) HA.out.srt HPs.out (fun x => { x with syn := x.dat.length }) HFI.out rfl] at hR
    exact RPost.of hR HI.out.lt (HC6.out.same (Chg.setCell w6 (p := ⟨g, i * 3 + 2, none⟩) HFg.out _)) (by simp [tick_last])
end
end Go.Proofs.Ytflajlnknimjaaa.Dk
