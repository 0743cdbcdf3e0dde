/- Size, Crash of the disk. -/
import Derived.Test.YtflajlnknimjaaaDkG
import Derived.Deep.LoopGhost
import Derived.Deep.QuietTactic
import Derived.BigQuiet
namespace Go.Proofs.Ytflajlnknimjaaa.Dk
open Go.RowKit Go.Maps Go.Proofs.YtflajlnknimjaaaW.PrintWords Go.Proofs.YtflajlnknimjaaaW.PrintMore Go.Proofs.Ytflajlnknimjaaa.Syn
attribute [local go_sem] max2_int min2_int max_two min_two

def sumC (L : List FileC) : Nat := (L.map fun c => c.bs.length).sum
theorem sumC_abs {L : List FileC} {fs : List Fl} (h : L.map FileC.abs = fs) : sumC L = total fs := by
  rw [← h]; unfold sumC total; rw [List.map_map]; rfl
theorem sumC_take {T : List FileC} (hs : Srt FileC.nm T) {c : FileC} (hc : c ∈ T) : sumC (era FileC.nm c.nm T) + c.bs.length = sumC T := by
  unfold era
  induction T with
  | nil => cases hc
  | cons z r ih =>
    have h' := List.pairwise_cons.1 hs
    rcases List.mem_cons.1 hc with rfl | hc
    · have : (r.filter fun x => decide (x.nm ≠ c.nm)) = r := by
        rw [List.filter_eq_self]
        intro y hy
        simpa using fun e => before_ne (h'.1 y hy) e.symm
      rw [List.filter_cons_of_neg (by simp), this]
      simp [sumC]; omega
    · have hz : z.nm ≠ c.nm := before_ne (h'.1 c hc)
      rw [List.filter_cons_of_pos (by simpa using hz)]
      have := ih h'.2 hc
      simp only [sumC, List.map_cons, List.sum_cons] at this ⊢
      omega
theorem chg_none {G : Nat → Prop} {w w1 : World} (h : Chg (fun _ => False) w w1) : Chg G w w1 := h.mono (fun _ h => h.elim)

set_option maxRecDepth 100000 in
set_option maxHeartbeats 400000 in
theorem size_calls {F : Nat → Prop} {p : Nat} {w : World} {d : St} (h : DiskAt w F p d) (hs : Srt Fl.nm d.fs) (ht : total d.fs ≤ 1099511627776) :
    Calls Try.prog 16 #[.pointer (some ⟨p, 0, none⟩)] w fun e w' => e = .returned (.int .i64 (total d.fs)) ∧ Chg (fun _ => False) w w' := by
  obtain ⟨m, L, hI, hL⟩ := h
  have b0 := sb_cell hI.blk 0
  simp at b0
  have hsL := srt_abs hL hs
  rw [← sumC_abs hL] at ht ⊢
  have HI := Lib.hid hI
  have HM := Lib.hid hI.map
  have HL := Lib.hid hsL
  have HT := Lib.hid ht
  have hmlt : m < w.heap.size := hI.lt m hI.fm
  have HMl := Lib.hid hmlt
  clear hI hL hsL hs ht hmlt
  go_enter Try.func16, Try.ntmps16
  go_wp2_with (first
    | (at_range; refine wpList_range_d _ rfl _ rfl rfl HM.out ?_; intro w0 hg0 hgr0 hs0; have HS0 := Lib.hid hs0; clear hs0))
  go_frame
  go_loopw [3] (fun n wr => ∃ T cnt, Going wr m w.heap.size L T cnt ∧ Srt FileC.nm T ∧ sumC T ≤ sumC L ∧ n = .int .i64 ((sumC L - sumC T : Nat) : Int) ∧ Chg (fun _ => False) w wr) (fun _ wr => wr.rangeLeft m w.heap.size)
  case atStart => exact ⟨L, L.length, hg0, HL.out, Nat.le_refl _, by simp, .of_grown hgr0 (fun k hk => by cases hk)⟩
  case round =>
    obtain ⟨T, cnt, hg, hsT, hle, rfl, hch⟩ := hrel
    have HST := Lib.hid hsT
    have HLe := Lib.hid hle
    clear hsT hle
    go_wp2_with (first
      | (at_next; refine wpList_next_d _ rfl _ rfl w.heap.size T cnt HL.out rfl hg ?_ ?_))
    · intro hT
      subst hT
      go_wp2
      go_ret
      exact ⟨by simp [sumC], hch⟩
    · intro c w1 cnt1 hcT hcL hg1 hlt hgr1 hs1 hen
      have HS1 := Lib.hid hs1
      have HG1 := Lib.hid hgr1
      have hch1 : Chg (fun _ => False) w w1 := hch.trans (G := fun k => k = w.heap.size) (.of_grown hgr1 (fun k hk => .inl (by cases hk; rfl))) (fun k hk => .inr (by rw [hk]; exact Nat.le_refl _))
      have hf := HI.out.files c hcL
      have hf1 : w1.heap[c.blk]? = some (.cells #[c.dat, .int .i64 c.syn] 68 (0, 0)) := hch1.heap hf.1 (fun h => h)
      obtain ⟨A, cap, hv, _, _⟩ := hf.2.2.1.form
      have c0 := sb_cell hf1 0
      simp at c0
      rw [hv] at c0
      have hsum := sumC_take HST.out hcT
      have hle := HLe.out
      have htot := HT.out
      have hb1 : 0 ≤ ((sumC L - sumC T : Nat) : Int) + c.bs.length := by omega
      have hb2 : ((sumC L - sumC T : Nat) : Int) + c.bs.length ≤ 1099511627776 := by omega
      have HSum := Lib.hid hsum
      have HG := Lib.hid hg1
      clear hs1 hgr1 hf hf1 hv hsum hle htot
      go_wp2
      go_roundw
      case rel =>
        have h1 := HSum.out
        have h2 := HLe.out
        refine ⟨era FileC.nm c.nm T, cnt1, HG.out, HST.out.era _, by omega, ?_, hch1⟩
        congr 1
        omega
      case measure => rw [HG.out.left_eq, hg.left_eq]; exact hlt

def crashDat (v : Value) (n : Nat) : Value := match v with | .slice A _ _ => .slice A n n | v => v
def crashC (last : ByteArray) (keep : Int) (c : FileC) : FileC := { c with dat := crashDat c.dat (kept last keep c.abs), bs := c.bs.take (kept last keep c.abs), syn := kept last keep c.abs }
theorem DRow.cut3 {w : World} {A : Option Addr} {n cap : Nat} {bs : List Int} (h : DRow w (.slice A n cap) bs) {k : Nat} (hk : k ≤ bs.length) : DRow w (.slice A k k) (bs.take k) := by
  rcases h with ⟨hv, rfl⟩ | ⟨g, cap', cur, hv, h1, h2, h3, h4, h5⟩
  · have hk0 : k = 0 := by simpa using hk
    subst hk0
    cases hv
    exact .inl ⟨rfl, rfl⟩
  · injection hv with e1 e2 e3
    subst e1 e3
    refine .inr ⟨g, k, cur, ?_, h1, ?_, by omega, by omega, ?_⟩
    · rw [List.length_take, Nat.min_eq_left hk]
    · rw [List.length_take]; omega
    · rw [nums_take, ← h5, List.length_take, List.take_take]
theorem slice3 {P : Program} (t e : TypeId) {i : TypeInfo} (ht : P.underlying t = some (.slice e)) (hi : P.info? e = some i) (A : Option Addr) (n c k : Nat) (hk : k ≤ c) (W : World) :
    (Instr.slice t (.slice A n c) none (some (.int .i64 k)) (some (.int .i64 k))).run P W = .ok (.slice A k k) W := by
  have hel : P.elem t = e := by simp [Program.elem, ht]
  have hu : P.underlying t = some (.slice (P.elem t)) := by rw [hel]; exact ht
  have ha : (A.map fun x => x.add 0) = A := by cases A <;> simp [Addr.add]
  rw [run_slice_hm W t A n c hu .i64 .i64 k k (by omega) (by omega) (by omega), hel]
  simp [sizeOf, typeInfo, hi, sliced, Result.andThen, ha]

theorem kept_le (last : ByteArray) (keep : Int) (x : Fl) (h : x.syn ≤ x.dat.length) : kept last keep x ≤ x.dat.length := by unfold kept; split <;> omega
/-- The files while a crash is under way: T are still as they were. -/
def halfway (last : ByteArray) (keep : Int) (T : List FileC) (c : FileC) : FileC := if ∃ t ∈ T, t.nm = c.nm then c else crashC last keep c

theorem crash_end {F : Nat → Prop} {p m : Nat} {w wr : World} {L : List FileC} {d : St} {keep : Int} (HI : DiskIs w F p m L d.last d.armed d.down) (HA : L.map FileC.abs = d.fs) (HD : DiskIs wr F p m (L.map (halfway d.last keep [])) d.last d.armed d.down) (hch : Chg F w wr) :
    DiskAt (((wr.setCell ⟨p, 1, none⟩ (.string ⟨#[]⟩)).setCell ⟨p, 2, none⟩ (.int .i64 0)).setCell ⟨p, 3, none⟩ (.bool false)) (Gr F w (((wr.setCell ⟨p, 1, none⟩ (.string ⟨#[]⟩)).setCell ⟨p, 2, none⟩ (.int .i64 0)).setCell ⟨p, 3, none⟩ (.bool false))) p (d.crash keep) ∧
      Chg F w (((wr.setCell ⟨p, 1, none⟩ (.string ⟨#[]⟩)).setCell ⟨p, 2, none⟩ (.int .i64 0)).setCell ⟨p, 3, none⟩ (.bool false)) := by
  have hp : Chg (· = p) wr (((wr.setCell ⟨p, 1, none⟩ (.string ⟨#[]⟩)).setCell ⟨p, 2, none⟩ (.int .i64 0)).setCell ⟨p, 3, none⟩ (.bool false)) :=
    ((Chg.setCell (F := (· = p)) wr (p := ⟨p, 1, none⟩) rfl _).same (Chg.setCell (F := (· = p)) _ (p := ⟨p, 2, none⟩) rfl _)).same (Chg.setCell (F := (· = p)) _ (p := ⟨p, 3, none⟩) rfl _)
  have hcc := hch.same (hp.mono (G := F) (fun k hk => by rw [hk]; exact HI.fp))
  refine ⟨⟨m, L.map (halfway d.last keep []), ?_, ?_⟩, hcc⟩
  · refine (HD.head (la' := nil_) (ar' := 0) (dn' := false) ?_ hp (by simp [World.setCell])).wide (fun _ h => .inl h) (Gr.lt HI.lt hcc.size)
    have := sb_set (sb_set (sb_set HD.blk 1 (.string ⟨#[]⟩)) 2 (.int .i64 0)) 3 (.bool false)
    simpa [nil_] using this
  · show _ = d.fs.map _
    rw [← HA, List.map_map, List.map_map]
    apply List.map_congr_left
    intro c _
    simp [halfway, crashC, FileC.abs]

theorem halfway_nm (last : ByteArray) (keep : Int) (T : List FileC) (c : FileC) : (halfway last keep T c).nm = c.nm := by unfold halfway; split <;> rfl
theorem halfway_srt {L : List FileC} (h : Srt FileC.nm L) (last : ByteArray) (keep : Int) (T : List FileC) : Srt FileC.nm (L.map (halfway last keep T)) := by
  unfold Srt
  rw [List.pairwise_map]
  exact h.imp (fun {a b} hab => by rw [halfway_nm, halfway_nm]; exact hab)
theorem halfway_step {L T : List FileC} (hs : Srt FileC.nm L) (last : ByteArray) (keep : Int) {c : FileC} (hcL : c ∈ L) (hcT : c ∈ T) :
    updC c.nm (crashC last keep c) (L.map (halfway last keep T)) = L.map (halfway last keep (era FileC.nm c.nm T)) := by
  unfold updC
  rw [List.map_map]
  apply List.map_congr_left
  intro x hx
  simp only [Function.comp, halfway_nm]
  by_cases h : x.nm = c.nm
  · rw [if_pos h, hs.inj hx hcL h]
    unfold halfway
    rw [if_neg]
    rintro ⟨t, ht, e⟩
    exact (mem_era.1 ht).2 e
  · rw [if_neg h]
    unfold halfway
    by_cases h2 : ∃ t ∈ T, t.nm = x.nm
    · rw [if_pos h2, if_pos]
      obtain ⟨t, ht, e⟩ := h2
      exact ⟨t, mem_era.2 ⟨ht, fun e2 => h (e.symm.trans e2)⟩, e⟩
    · rw [if_neg h2, if_neg]
      rintro ⟨t, ht, e⟩
      exact h2 ⟨t, (mem_era.1 ht).1, e⟩
theorem crash_round {F : Nat → Prop} {p m r cnt1 nq : Nat} {w wr w1 : World} {L T : List FileC} {d : St} {keep : Int} {c : FileC} {A : Option Addr} {cap K : Nat} (hr : r = w.heap.size) (HI : DiskIs w F p m L d.last d.armed d.down) (hs : Srt FileC.nm L) (hsT : Srt FileC.nm T)
    (hch : Chg F w w1) (HD1 : DiskIs w1 F p m (L.map (halfway d.last keep T)) d.last d.armed d.down) (hcL : c ∈ L) (hcT : c ∈ T) (hg : Going w1 m r L (era FileC.nm c.nm T) cnt1) (hlt : cnt1 < wr.rangeLeft m r)
    (hv : c.dat = .slice A c.bs.length cap) (hK : K = kept d.last keep c.abs) (hk : K ≤ c.bs.length) :
    (∃ T cnt, Going (((w1.drewN nq).setCell ⟨c.blk, 0, none⟩ (.slice A K K)).setCell ⟨c.blk, 1, none⟩ (.int .i64 K)) m r L T cnt ∧ Srt FileC.nm T ∧ DiskIs (((w1.drewN nq).setCell ⟨c.blk, 0, none⟩ (.slice A K K)).setCell ⟨c.blk, 1, none⟩ (.int .i64 K)) F p m (L.map (halfway d.last keep T)) d.last d.armed d.down ∧
      Chg F w (((w1.drewN nq).setCell ⟨c.blk, 0, none⟩ (.slice A K K)).setCell ⟨c.blk, 1, none⟩ (.int .i64 K))) ∧
    (((w1.drewN nq).setCell ⟨c.blk, 0, none⟩ (.slice A K K)).setCell ⟨c.blk, 1, none⟩ (.int .i64 K)).rangeLeft m r < wr.rangeLeft m r := by
  have hcL' : c ∈ L.map (halfway d.last keep T) := List.mem_map.2 ⟨c, hcL, if_pos ⟨c, hcT, rfl⟩⟩
  have hf := HD1.files c hcL'
  have hd := hf.2.2.1
  rw [hv] at hd
  have hc2 : Chg (· = c.blk) w1 (((w1.drewN nq).setCell ⟨c.blk, 0, none⟩ (.slice A K K)).setCell ⟨c.blk, 1, none⟩ (.int .i64 K)) :=
    ((Chg.drewN w1 nq).same (Chg.setCell (F := (· = c.blk)) _ (p := ⟨c.blk, 0, none⟩) rfl _)).same (Chg.setCell (F := (· = c.blk)) _ (p := ⟨c.blk, 1, none⟩) rfl _)
  have hg2 : Going (((w1.drewN nq).setCell ⟨c.blk, 0, none⟩ (.slice A K K)).setCell ⟨c.blk, 1, none⟩ (.int .i64 K)) m r L (era FileC.nm c.nm T) cnt1 := by
    refine hg.kept (row := some c.blk) ⟨hc2.os, hc2.tape, hc2.output, hc2.size, fun k hk hn => hc2.block k hk (fun e => hn (by rw [e]))⟩ ?_ ?_
    · intro e
      injection e with e
      exact HD1.map.ne hf.1 e
    · intro e
      injection e with e
      have := HI.lt c.blk hf.2.1
      omega
  refine ⟨⟨_, cnt1, hg2, hsT.era _, ?_, hch.same (hc2.mono (fun k hk => by rw [hk]; exact hf.2.1))⟩, by rw [hg2.left_eq]; exact hlt⟩
  rw [← halfway_step hs d.last keep hcL hcT]
  have hcd : crashC d.last keep c = { c with dat := .slice A K K, bs := c.bs.take K, syn := K } := by unfold crashC crashDat; rw [hv, hK]
  rw [hcd]
  refine HD1.upd (halfway_srt hs _ _ _) hcL' (G := F) rfl rfl ⟨?_, hf.2.1, (hd.cut3 hk).heap (fun g hg => hc2.block g ?_ ?_), fun g hg => hf.2.2.2 g ?_⟩ (fun k hk h1 _ => hc2.block k (HD1.lt k hk) h1) (fun g hg => .inl ?_) (fun _ h => h) (fun k hk => Nat.lt_of_lt_of_le (HD1.lt k hk) hc2.size)
  · have := sb_set (sb_set (w := w1.drewN nq) hf.1 0 (.slice A K K)) 1 (.int .i64 K)
    simpa using this
  · obtain ⟨cur, hcur⟩ := (hd.cut3 hk).blk hg
    exact blk_lt hcur
  · obtain ⟨cur, hcur⟩ := (hd.cut3 hk).blk hg
    exact ne_of_type hcur hf.1 (by decide)
  · rw [hv, own_slice A _ K _ K]; exact hg
  · rw [hv, own_slice A _ K _ K]; exact hg

set_option maxRecDepth 100000 in
set_option maxHeartbeats 400000 in
theorem crash_calls {F : Nat → Prop} {p : Nat} {w : World} {d : St} (keep : Int) (h : DiskAt w F p d) (ok : d.Ok) :
    Calls Try.prog 22 #[.pointer (some ⟨p, 0, none⟩), .int .i64 keep] w fun e w' => e = .returned (.tuple #[]) ∧ DiskAt w' (Gr F w w') p (d.crash keep) ∧ Chg F w w' := by
  obtain ⟨m, L, hI, hL⟩ := h
  have b0 := sb_cell hI.blk 0
  simp at b0
  have hsL := srt_abs hL ok.srt
  have HI := Lib.hid hI
  have HM := Lib.hid hI.map
  have HL := Lib.hid hsL
  have HA := Lib.hid hL
  have HK := Lib.hid ok
  clear hI hL hsL ok
  go_enter Try.func22, Try.ntmps22
  go_wp2_with (first
    | (at_range; refine wpList_range_d _ rfl _ rfl rfl HM.out ?_; intro w0 hg0 hgr0 hs0; have HS0 := Lib.hid hs0; clear hs0))
  go_frame
  go_loopw [4] (fun _ wr => ∃ T cnt, Going wr m w.heap.size L T cnt ∧ Srt FileC.nm T ∧ DiskIs wr F p m (L.map (halfway d.last keep T)) d.last d.armed d.down ∧ Chg F w wr) (fun _ wr => wr.rangeLeft m w.heap.size)
  case atStart =>
    have hch : Chg F w w0 := .of_grown hgr0 (fun k hk => by cases hk)
    have hL : L.map (halfway d.last keep L) = L := by
      rw [List.map_congr_left (f := halfway d.last keep L) (g := id) (fun c hc => by unfold halfway; rw [if_pos ⟨c, hc, rfl⟩]; rfl), List.map_id]
    exact ⟨L, L.length, hg0, HL.out, by rw [hL]; exact HI.out.chg (G := fun _ => False) (.of_grown hgr0 (fun k hk => by cases hk)) (fun _ _ h => h), hch⟩
  case round =>
    obtain ⟨T, cnt, hg, hsT, hD, hch⟩ := hrel
    have HST := Lib.hid hsT
    have HD := Lib.hid hD
    clear hsT hD
    go_wp2_with (first
      | (at_next; refine wpList_next_d _ rfl _ rfl w.heap.size T cnt HL.out rfl hg ?_ ?_))
    · intro hT
      subst hT
      have hb := HD.out.blk
      have q1 := sb_cell hb 1
      have q2 := sb_cell hb 2
      have q3 := sb_cell hb 3
      have r1 := sb_free hb 1
      have r2 := sb_free hb 2
      have r3 := sb_free hb 3
      simp at q1 q2 q3
      clear hb
      go_wp2
      go_end0
      exact ⟨rfl, crash_end HI.out HA.out HD.out hch⟩
    · intro c w1 cnt1 hcT hcL hg1 hlt hgr1 hs1 hen
      have HS1 := Lib.hid hs1
      have HG1 := Lib.hid hgr1
      have hch1 : Chg F w w1 := hch.trans (G := fun k => k = w.heap.size) (.of_grown hgr1 (fun k hk => .inl (by cases hk; rfl))) (fun k hk => .inr (by rw [hk]; exact Nat.le_refl _))
      have hD1 : DiskIs w1 F p m (L.map (halfway d.last keep T)) d.last d.armed d.down := HD.out.chg (G := fun k => k = w.heap.size) (.of_grown hgr1 (fun k hk => .inl (by cases hk; rfl))) (fun k hk e => by have := HI.out.lt k hk; omega)
      have hcL' : c ∈ L.map (halfway d.last keep T) := List.mem_map.2 ⟨c, hcL, if_pos ⟨c, hcT, rfl⟩⟩
      have hf1 := hD1.files c hcL'
      obtain ⟨A, cap, hv, hcap, hcm⟩ := hf1.2.2.1.form
      have c0 := sb_cell hf1.1 0
      have c1 := sb_cell hf1.1 1
      have f0 := sb_free hf1.1 0
      have f1 := sb_free hf1.1 1
      have p1 := sb_cell hD1.blk 1
      simp at c0 c1 p1
      rw [hv] at c0
      have hsy : c.syn ≤ c.bs.length := HK.out.syn c.abs (by rw [← HA.out]; exact List.mem_map.2 ⟨c, hcL, rfl⟩)
      obtain ⟨i0, hi, _⟩ := info_parts PDiskLoads.info5
      have hsl0 := fun (k : Nat) (hk : k ≤ cap) => slice3 (P := Try.prog) 34 5 Try.underlying34 hi A c.bs.length cap k hk
      unfold maxLen at hcm
      have hR := fun (nq K : Nat) hK hk => crash_round (nq := nq) (K := K) rfl HI.out HL.out HST.out hch1 hD1 hcL hcT hg1 (by rw [hg.left_eq]; exact hlt) hv hK hk
      have HR := Lib.hid hR
      have HSL := Lib.hid hsl0
      have HSY := Lib.hid hsy
      have HCP := Lib.hid hcap
      have HCM := Lib.hid hcm
      clear hs1 hgr1 hf1 hv hD1 hg1 hch1 hR hsl0 hi hsy hcap hcm hlt hch hg
      by_cases hq : c.nm = d.last
      · have hE : (c.nm.toList == d.last.toList) = true := by rw [tl_beq]; simp [hq]
        have HQ := Lib.hid hq
        clear hq
        have hw1 : wrap64 ((c.bs.length : Int) - c.syn) = (c.bs.length : Int) - c.syn := by have := HSY.out; have := HCP.out; have := HCM.out; unfold wrap64; omega
        have hx : 0 ≤ (c.bs.length : Int) - c.syn := by have := HSY.out; omega
        have hkp : kept d.last keep c.abs = c.syn + min keep.toNat (c.bs.length - c.syn) := by unfold kept; rw [if_pos (show c.abs.nm = d.last from HQ.out)]; rfl
        have HKP := Lib.hid hkp
        clear hkp
        by_cases k0 : keep < 0
        · obtain ⟨K, hK⟩ : ∃ K, K = c.syn := ⟨_, rfl⟩
          have hK1 : K = kept d.last keep c.abs := by rw [HKP.out, hK]; omega
          have hK2 : K ≤ c.bs.length := by have := HSY.out; omega
          have hw2 : wrap64 ((c.syn : Int)) = K := by have := HSY.out; have := HCP.out; have := HCM.out; unfold wrap64; omega
          have hsl := HSL.out K (by have := HCP.out; omega)
          have HKK := Lib.hid hK1
          have HK2 := Lib.hid hK2
          clear hK hK1 hK2
          go_wp2
          go_quiet (fail)
          go_wp2
          go_roundw
          case rel => exact (HR.out _ K HKK.out HK2.out).1
          case measure => exact (HR.out _ K HKK.out HK2.out).2
        · have k1 : 0 ≤ keep := by omega
          by_cases k2 : (c.bs.length : Int) - c.syn < keep
          · obtain ⟨K, hK⟩ : ∃ K, K = c.bs.length := ⟨_, rfl⟩
            have hK1 : K = kept d.last keep c.abs := by rw [HKP.out, hK]; have := HSY.out; omega
            have hK2 : K ≤ c.bs.length := by omega
            have hw2 : wrap64 ((c.syn : Int) + ((c.bs.length : Int) - c.syn)) = K := by have := HSY.out; have := HCP.out; have := HCM.out; unfold wrap64; omega
            have hsl := HSL.out K (by have := HCP.out; omega)
            have HKK := Lib.hid hK1
            have HK2 := Lib.hid hK2
            clear hK hK1 hK2
            go_wp2
            go_quiet (fail)
            go_wp2
            go_roundw
            case rel => exact (HR.out _ K HKK.out HK2.out).1
            case measure => exact (HR.out _ K HKK.out HK2.out).2
          · obtain ⟨K, hK⟩ : ∃ K, K = c.syn + keep.toNat := ⟨_, rfl⟩
            have hK1 : K = kept d.last keep c.abs := by rw [HKP.out, hK]; have := HSY.out; omega
            have hK2 : K ≤ c.bs.length := by have := HSY.out; omega
            have hw2 : wrap64 ((c.syn : Int) + keep) = K := by have := HSY.out; have := HCP.out; have := HCM.out; unfold wrap64; omega
            have hsl := HSL.out K (by have := HCP.out; omega)
            have HKK := Lib.hid hK1
            have HK2 := Lib.hid hK2
            clear hK hK1 hK2
            go_wp2
            go_quiet (fail)
            go_wp2
            go_roundw
            case rel => exact (HR.out _ K HKK.out HK2.out).1
            case measure => exact (HR.out _ K HKK.out HK2.out).2
      · have hE : (c.nm.toList == d.last.toList) = false := by rw [tl_beq]; simp [hq]
        have hK : c.syn = kept d.last keep c.abs := by unfold kept; rw [if_neg (show ¬ c.abs.nm = d.last from hq)]; rfl
        have hsl := HSL.out c.syn (Nat.le_trans HSY.out HCP.out)
        have HKK := Lib.hid hK
        clear hK hq
        go_wp2
        go_roundw
        case rel => exact (HR.out 0 _ HKK.out HSY.out).1
        case measure => exact (HR.out 0 _ HKK.out HSY.out).2
end Go.Proofs.Ytflajlnknimjaaa.Dk
