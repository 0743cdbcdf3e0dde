/- Cut of the disk. -/
import Derived.Test.YtflajlnknimjaaaDkW3
namespace Go.Proofs.Ytflajlnknimjaaa.Dk
open Go.RowKit Go.Maps Go.Proofs.YtflajlnknimjaaaW.PrintWords Go.Proofs.YtflajlnknimjaaaW.PrintMore Go.Proofs.Ytflajlnknimjaaa.Syn
attribute [local go_sem] max2_int min2_int max_two min_two

theorem nums_take (k : IntKind) (xs : List Int) (n : Nat) : nums k (xs.take n) = (nums k xs).take n := by simp [nums, List.map_take]
theorem own_slice (A : Option Addr) (n n' c c' : Nat) : (Value.slice A n c).ownBlock = (Value.slice A n' c').ownBlock := by cases A <;> rfl
theorem DRow.cut {w : World} {A : Option Addr} {n cap : Nat} {bs : List Int} (h : DRow w (.slice A n cap) bs) {k : Nat} (hk : k ≤ bs.length) : DRow w (.slice A k cap) (bs.take k) := by
  rcases h with ⟨hv, rfl⟩ | ⟨g, cap', cur, hv, h1, h2, h3, h4, h5⟩
  · have hk0 : k = 0 := by simpa using hk
    subst hk0
    cases hv
    exact .inl ⟨rfl, rfl⟩
  · injection hv with e1 e2 e3
    subst e1 e3
    refine .inr ⟨g, cap, cur, ?_, h1, ?_, h3, h4, ?_⟩
    · rw [List.length_take, Nat.min_eq_left hk]
    · rw [List.length_take]; omega
    · rw [nums_take, ← h5, List.length_take, List.take_take]

theorem cut_end {F : Nat → Prop} {p m : Nat} {w w1 : World} {L : List FileC} {d : St} {c : FileC} {nm : ByteArray} {n : Int} {A : Option Addr} {cap : Nat} {r : Int × St} {s : Int} (HI : DiskIs w F p m L d.last d.armed d.down) (HL : L.map FileC.abs = d.fs) (hsL : Srt FileC.nm L)
    (hc1 : Chg (· = p) w w1) (HI1 : DiskIs w1 F p m L d.last (tick d).2.armed (tick d).2.down) (hcm : c ∈ L) (hcn : c.nm = nm) (hv : c.dat = .slice A c.bs.length cap) (hk : n.toNat ≤ c.bs.length) (hs : s = ((min c.syn n.toNat : Nat) : Int))
    (HR : (0, { (tick d).2 with fs := upd nm (fun x => { x with dat := x.dat.take n.toNat, syn := min x.syn n.toNat }) d.fs }) = r) :
    Post F p w r (.returned (.int .i64 0)) ((w1.setCell ⟨c.blk, 0, none⟩ (.slice A n.toNat cap)).setCell ⟨c.blk, 1, none⟩ (.int .i64 s)) := by
  subst hs
  have HF1 := HI1.files c hcm
  have hc : Chg F w w1 := hc1.mono (fun k hk => by rw [hk]; exact HI.fp)
  have hc2 : Chg F w1 ((w1.setCell ⟨c.blk, 0, none⟩ (.slice A n.toNat cap)).setCell ⟨c.blk, 1, none⟩ (.int .i64 ((min c.syn n.toNat : Nat) : Int))) := (Chg.setCell w1 (p := ⟨c.blk, 0, none⟩) HF1.2.1 _).same (Chg.setCell _ (p := ⟨c.blk, 1, none⟩) HF1.2.1 _)
  have hcc := hc.same hc2
  have hh : ∀ k, k ≠ c.blk → ((w1.setCell ⟨c.blk, 0, none⟩ (.slice A n.toNat cap)).setCell ⟨c.blk, 1, none⟩ (.int .i64 ((min c.syn n.toNat : Nat) : Int))).heap[k]? = w1.heap[k]? := fun k hk => (Below.heap_setCell _ _ _ _ hk).trans (Below.heap_setCell _ _ _ _ hk)
  have hd := HF1.2.2.1
  rw [hv] at hd
  rw [← HR]
  refine ⟨rfl, ⟨m, updC c.nm { c with dat := .slice A n.toNat cap, bs := c.bs.take n.toNat, syn := min c.syn n.toNat } L, ?_, ?_⟩, hcc⟩
  · simp only [tick_last]
    refine (HI1.upd hsL hcm (c' := { c with dat := .slice A n.toNat cap, bs := c.bs.take n.toNat, syn := min c.syn n.toNat }) (G := F) rfl rfl ⟨?_, HF1.2.1, (hd.cut hk).heap (fun g hg => hh g ?_), fun g hg => HF1.2.2.2 g ?_⟩ (fun k _ hk _ => hh k hk) (fun g hg => .inl ?_) (fun _ h => h) (fun k hk => Nat.lt_of_lt_of_le (HI.lt k hk) hcc.size)).wide (fun _ h => .inl h) (Gr.lt HI.lt hcc.size)
    · have := sb_set (sb_set HF1.1 0 (.slice A n.toNat cap)) 1 (.int .i64 ((min c.syn n.toNat : Nat) : Int))
      simpa using this
    · obtain ⟨cur, hcur⟩ := (hd.cut hk).blk hg
      exact ne_of_type hcur HF1.1 (by decide)
    · rw [hv, own_slice A _ n.toNat _ cap]; exact hg
    · rw [hv, own_slice A _ n.toNat _ cap]; exact hg
  · rw [updC_abs hsL hcm (fun x => { x with dat := x.dat.take n.toNat, syn := min x.syn n.toNat }) rfl, HL, hcn]

set_option maxRecDepth 100000 in
set_option maxHeartbeats 400000 in
theorem cut_calls {F : Nat → Prop} {p : Nat} {w : World} {d : St} (nm : ByteArray) (n : Int) (h : DiskAt w F p d) (ok : d.Ok) (hn : nm.size ≤ 140737488351232) :
    Calls Try.prog 44 #[.pointer (some ⟨p, 0, none⟩), .string nm, .int .i64 n] w (Post F p w (d.cut nm n)) := by
  have hn1 : nm.size ≤ maxLen := by unfold maxLen; omega
  have H := Lib.hid h
  obtain ⟨m, L, hI, hL⟩ := h
  have b0 := sb_cell hI.blk 0
  have b3 := sb_cell hI.blk 3
  simp at b0 b3
  have hl := hI.map.look hn1
  have hla := look_abs hL nm
  have HI := Lib.hid hI
  generalize hr : d.cut nm n = r
  unfold St.cut at hr
  have HL := Lib.hid hL
  have HA := Lib.hid ok
  clear hI hL
  cases hd : d.down with
  | true =>
    rw [if_pos hd] at hr
    rw [hd] at b3
    have HR := Lib.hid hr
    cases hk : look FileC.nm nm L with
    | none =>
      rw [hk] at hl
      simp only [ptrOf] at hl
      clear hk hla hr hd ok
      go_enter Try.func44, Try.ntmps44
      go_wp2
      go_ret
      rw [← HR.out]
      exact Post.same H.out rfl 0
    | some c =>
      rw [hk] at hl
      simp only [ptrOf] at hl
      clear hk hla hr hd ok
      go_enter Try.func44, Try.ntmps44
      go_wp2
      go_ret
      rw [← HR.out]
      exact Post.same H.out rfl 0
  | false =>
  rw [if_neg (by rw [hd]; simp), hla] at hr
  rw [hd] at b3
  cases hk : look FileC.nm nm L with
  | none =>
    rw [hk] at hl hr
    simp only [ptrOf] at hl
    have HR := Lib.hid hr
    clear hk hla hd hr ok
    go_enter Try.func44, Try.ntmps44
    go_wp2
    go_ret
    rw [← HR.out]
    exact Post.same H.out rfl 0
  | some c =>
    rw [hk] at hl hr
    simp only [ptrOf] at hl
    simp only [Option.map_some] at hr
    have hr2 : (if n < 0 ∨ (c.bs.length : Int) < n then ((1 : Int), d) else if (tick d).1 = true then (11, (tick d).2)
      else (0, { (tick d).2 with fs := upd nm (fun x => { x with dat := x.dat.take n.toNat, syn := min x.syn n.toNat }) d.fs })) = r := hr
    clear hr
    obtain ⟨hcm, hcn⟩ := look_some hk
    have hfc := HI.out.files c hcm
    have hsL := srt_abs HL.out ok.srt
    obtain ⟨A, cap, hv, hcap, hcm2⟩ := hfc.2.2.1.form
    have q0 := sb_cell hfc.1 0
    have q1 := sb_cell hfc.1 1
    simp at q0 q1
    rw [hv] at q0
    have HV := Lib.hid hv
    have HN := Lib.hid hcn
    by_cases hn0 : n < 0
    · rw [if_pos (.inl hn0)] at hr2
      have HR := Lib.hid hr2
      have hb : decide (n < 0) = true := by simpa using hn0
      clear hk hla hd hr2 ok hfc hv hcn hcm hsL hn0
      go_enter Try.func44, Try.ntmps44
      go_wp2
      go_ret
      rw [← HR.out]
      exact Post.same H.out rfl 0
    have hb0 : decide (n < 0) = false := by simpa using hn0
    by_cases hn2 : (c.bs.length : Int) < n
    · rw [if_pos (.inr hn2)] at hr2
      have HR := Lib.hid hr2
      have hb : decide ((c.bs.length : Int) < n) = true := by simpa using hn2
      clear hk hla hd hr2 ok hfc hv hcn hcm hsL hn0 hn2
      go_enter Try.func44, Try.ntmps44
      go_wp2
      go_ret
      rw [← HR.out]
      exact Post.same H.out rfl 0
    have hb1 : decide ((c.bs.length : Int) < n) = false := by simpa using hn2
    rw [if_neg (by omega)] at hr2
    obtain ⟨i0, hi, _⟩ := info_parts PDiskLoads.info5
    have hsl := cut_to (P := Try.prog) 34 5 .i64 Try.underlying34 hi A c.bs.length cap n (by omega) (by omega) hcap
    have hn3 : n.toNat ≤ c.bs.length := by omega
    have hmn : mn (c.syn : Int) n = ((min c.syn n.toNat : Nat) : Int) := by unfold mn; split <;> omega
    have HMN := Lib.hid hmn
    have HN3 := Lib.hid hn3
    have HN0 := Lib.hid (show 0 ≤ n by omega)
    cases ht : (tick d).1 with
    | true =>
      rw [if_pos ht] at hr2
      have HT := Lib.hid ht
      have HR := Lib.hid hr2
      clear hk hla hd ht ok hv hfc hcn hcm hsL hr2 hn0 hn2 hi hsl hmn hn3
      go_enter Try.func44, Try.ntmps44
      go_wp2_with (go_at_call 35; refine (tick_calls p m _ d.last d.armed d.down d rfl rfl HA.out.armed (by exact HI.out.blk)).mono ?_; rintro e w1 ⟨rfl, hb1, hs1, hc1⟩; rw [HT.out]; have HX := Lib.hid hb1; have HS := Lib.hid hs1; clear hb1 hs1)
      go_ret
      rw [← HR.out]
      exact Post.ticked (nd := 0) HI.out HL.out HX.out HS.out hc1
    | false =>
      rw [if_neg (by rw [ht]; simp)] at hr2
      have HT := Lib.hid ht
      have HF := Lib.hid hfc
      have HR := Lib.hid hr2
      clear hk hla hd ht ok hv hfc hcn hr2 hn0 hn2 hi hmn hn3
      go_enter Try.func44, Try.ntmps44
      go_wp2_with (go_at_call 35; refine (tick_calls p m _ d.last d.armed d.down d rfl rfl HA.out.armed (by exact HI.out.blk)).mono ?_; rintro e w1 ⟨rfl, hb1, hs1, hc1⟩; rw [HT.out]; have hI1 := HI.out.head hb1 hc1 hs1; have hf1 := hI1.files c hcm; have c0 := sb_cell hf1.1 0; have c1 := sb_cell hf1.1 1; have f0 := sb_free hf1.1 0; have f1 := sb_free hf1.1 1; simp at c0 c1; rw [HV.out] at c0; have HI1 := Lib.hid hI1; have HF1 := Lib.hid hf1; have HS := Lib.hid hs1; clear hb1 hs1 hI1 hf1)
      all_goals go_ret
      · exact cut_end HI.out HL.out hsL hc1 HI1.out hcm HN.out HV.out HN3.out (by have := HN0.out; omega) HR.out
      · exact cut_end HI.out HL.out hsL hc1 HI1.out hcm HN.out HV.out HN3.out (by have := HN0.out; omega) HR.out
end Go.Proofs.Ytflajlnknimjaaa.Dk
