/- What holds of every disk is kept by every operation. -/
import Derived.Test.YtflajlnknimjaaaDkP
namespace Go.Proofs.Ytflajlnknimjaaa.Dk
open Go.WideAt Go.WideShapes

theorem tick_cases (d : St) : (tick d).2.fs = d.fs ∧ (tick d).2.last = d.last ∧ (tick d).2.armed ≤ d.armed := by
  unfold tick; split <;> simp
theorem tick_ok {d : St} (h : d.Ok) : (tick d).2.Ok := by
  obtain ⟨h1, h2, h3⟩ := tick_cases d
  exact ⟨by rw [h1]; exact h.srt, by rw [h1]; exact h.syn, by rw [h1]; exact h.tot, by rw [h1]; exact h.cnt, by rw [h1, h2]; exact h.last, by rw [h1]; exact h.named, Nat.le_trans h3 h.armed⟩
theorem total_cons (x : Fl) (l : List Fl) : total (x :: l) = x.dat.length + total l := rfl
theorem total_ins (x : Fl) (l : List Fl) : total (ins Fl.nm x l) = x.dat.length + total l := by
  induction l with
  | nil => rfl
  | cons z r ih =>
    unfold ins
    split
    · rfl
    · rw [total_cons, ih, total_cons]; omega
theorem total_era (nm : ByteArray) (l : List Fl) : total (era Fl.nm nm l) ≤ total l := by
  induction l with
  | nil => exact Nat.le_refl _
  | cons z r ih =>
    unfold era at ih ⊢
    rw [List.filter_cons]
    split
    · rw [total_cons, total_cons]; omega
    · rw [total_cons]; omega
theorem total_era_mem {nm : ByteArray} {l : List Fl} {x : Fl} (hx : x ∈ l) (hn : x.nm = nm) : total (era Fl.nm nm l) + x.dat.length ≤ total l := by
  induction l with
  | nil => cases hx
  | cons z r ih =>
    rcases List.mem_cons.1 hx with rfl | hx
    · have := total_era nm r
      unfold era at this ⊢
      rw [List.filter_cons_of_neg (by simp [hn]), total_cons]
      omega
    · have := ih hx
      unfold era at this ⊢
      rw [List.filter_cons]
      split
      · rw [total_cons, total_cons]; omega
      · rw [total_cons]; omega
theorem upd_nm {nm : ByteArray} {g : Fl → Fl} (hg : ∀ x, (g x).nm = x.nm) (l : List Fl) : (upd nm g l).map Fl.nm = l.map Fl.nm := by
  unfold upd
  rw [List.map_map]
  apply List.map_congr_left
  intro x _
  simp only [Function.comp]
  split
  · exact hg x
  · rfl
theorem upd_srt {nm : ByteArray} {g : Fl → Fl} (hg : ∀ x, (g x).nm = x.nm) {l : List Fl} (h : Srt Fl.nm l) : Srt Fl.nm (upd nm g l) := by
  unfold Srt upd
  rw [List.pairwise_map]
  refine h.imp (fun {a b} hab => ?_)
  have e : ∀ x : Fl, (if x.nm = nm then g x else x).nm = x.nm := fun x => by split; exact hg x; rfl
  rw [e, e]
  exact hab
theorem mem_upd {nm : ByteArray} {g : Fl → Fl} {l : List Fl} {y : Fl} (h : y ∈ upd nm g l) : ∃ x ∈ l, (x.nm = nm ∧ y = g x) ∨ (x.nm ≠ nm ∧ y = x) := by
  obtain ⟨x, hx, rfl⟩ := List.mem_map.1 h
  by_cases hn : x.nm = nm
  · exact ⟨x, hx, .inl ⟨hn, by rw [if_pos hn]⟩⟩
  · exact ⟨x, hx, .inr ⟨hn, by rw [if_neg hn]⟩⟩
theorem upd_mem {nm : ByteArray} {g : Fl → Fl} (hg : ∀ x, (g x).nm = x.nm) {l : List Fl} {k : ByteArray} (h : ∃ x ∈ l, x.nm = k) : ∃ x ∈ upd nm g l, x.nm = k := by
  obtain ⟨x, hx, hk⟩ := h
  refine ⟨if x.nm = nm then g x else x, List.mem_map.2 ⟨x, hx, rfl⟩, ?_⟩
  split
  · rw [hg]; exact hk
  · exact hk
theorem total_upd_le {nm : ByteArray} {g : Fl → Fl} (hg : ∀ x, (g x).dat.length ≤ x.dat.length) (l : List Fl) : total (upd nm g l) ≤ total l := by
  induction l with
  | nil => exact Nat.le_refl _
  | cons z r ih =>
    show (if z.nm = nm then g z else z).dat.length + total (upd nm g r) ≤ _
    rw [total_cons]
    split
    · have := hg z; omega
    · omega
theorem total_upd_add {nm : ByteArray} {g : Fl → Fl} {b : Nat} (hg : ∀ x, (g x).dat.length ≤ x.dat.length + b) {l : List Fl} (hs : Srt Fl.nm l) : total (upd nm g l) ≤ total l + b := by
  induction l with
  | nil => exact Nat.zero_le _
  | cons z r ih =>
    have h' := List.pairwise_cons.1 hs
    show (if z.nm = nm then g z else z).dat.length + total (upd nm g r) ≤ _
    rw [total_cons]
    by_cases hz : z.nm = nm
    · rw [if_pos hz]
      have e : upd nm g r = r := by
        unfold upd
        conv => rhs; rw [← List.map_id r]
        apply List.map_congr_left
        intro x hx
        rw [if_neg (fun e => before_ne (h'.1 x hx) (hz.trans e.symm))]
        rfl
      rw [e]
      have := hg z
      omega
    · rw [if_neg hz]
      have := ih h'.2
      omega
theorem new_ok : St.new.Ok := ⟨List.Pairwise.nil, fun x hx => absurd hx (by simp [St.new]), Nat.zero_le _, Nat.zero_le _, .inl rfl, fun x hx => absurd hx (by simp [St.new]), Nat.zero_le _⟩
theorem arm_ok {d : St} (h : d.Ok) {n : Int} (hn : n ≤ 9223372036854775807) : (d.arm n).Ok := ⟨h.srt, h.syn, h.tot, h.cnt, h.last, h.named, by show n.toNat ≤ _; omega⟩
theorem last_ins {d : St} (h : d.Ok) (x : Fl) : d.last = nil_ ∨ ∃ y ∈ ins Fl.nm x d.fs, y.nm = d.last := h.last.imp id (fun ⟨y, hy, e⟩ => ⟨y, mem_ins.2 (.inr hy), e⟩)
theorem create_ok {d : St} (h : d.Ok) (nm : ByteArray) : (d.create nm).2.Ok := by
  unfold St.create
  split
  · exact h
  split
  · exact h
  split
  · exact h
  split
  · exact h
  split
  · exact tick_ok h
  · rename_i hd hk hh hc ht
    have hno : ∀ y ∈ d.fs, y.nm ≠ nm := look_none.1 (by simpa using hh)
    obtain ⟨h1, h2, h3⟩ := tick_cases d
    refine ⟨h.srt.ins hno, fun x hx => ?_, ?_, ?_, by show (tick d).2.last = _ ∨ _; rw [h2]; exact last_ins h _, fun x hx => ?_, Nat.le_trans h3 h.armed⟩
    · rcases mem_ins.1 hx with rfl | hx
      · exact Nat.le_refl _
      · exact h.syn x hx
    · show total (ins _ _ _) ≤ _
      rw [total_ins]
      have := h.tot
      simpa using this
    · show (ins _ _ _).length ≤ _
      rw [length_ins]
      omega
    · rcases mem_ins.1 hx with rfl | hx
      · simpa using hk
      · exact h.named x hx
theorem append_ok {d : St} (h : d.Ok) (nm : ByteArray) (b : List Int) : (d.append nm b).2.Ok := by
  unfold St.append
  split
  · exact h
  split
  · exact h
  · rename_i hd x hl
    split
    · exact h
    · rename_i hc
      obtain ⟨h1, h2, h3⟩ := tick_cases d
      obtain ⟨hx, hn⟩ := look_some hl
      refine ⟨upd_srt (fun _ => by rfl) h.srt, fun y hy => ?_, ?_, ?_, .inr (upd_mem (fun _ => by rfl) ⟨x, hx, hn⟩), fun y hy => ?_, Nat.le_trans h3 h.armed⟩
      · obtain ⟨z, hz, ⟨_, rfl⟩ | ⟨_, rfl⟩⟩ := mem_upd hy
        · have := h.syn z hz
          simp only [List.length_append]
          omega
        · exact h.syn _ hz
      · have := total_upd_add (nm := nm) (g := fun x => { x with dat := x.dat ++ if (tick d).1 = true then b.take (b.length / 2) else b }) (b := b.length) (fun y => by
          simp only [List.length_append]
          split
          · rw [List.length_take]; omega
          · omega) h.srt
        show total (upd _ _ _) ≤ _
        omega
      · show (upd _ _ _).length ≤ _
        unfold upd
        rw [List.length_map]
        exact h.cnt
      · obtain ⟨z, hz, ⟨_, rfl⟩ | ⟨_, rfl⟩⟩ := mem_upd hy
        · exact h.named z hz
        · exact h.named _ hz
theorem sync_ok {d : St} (h : d.Ok) (nm : ByteArray) : (d.sync nm).2.Ok := by
  unfold St.sync
  split
  · exact h
  split
  · exact h
  · split
    · exact tick_ok h
    · obtain ⟨h1, h2, h3⟩ := tick_cases d
      refine ⟨upd_srt (fun _ => by rfl) h.srt, fun y hy => ?_, Nat.le_trans (total_upd_le (fun _ => by exact Nat.le_refl _) _) h.tot, by show (upd _ _ _).length ≤ _; unfold upd; rw [List.length_map]; exact h.cnt, ?_, fun y hy => ?_, Nat.le_trans h3 h.armed⟩
      · obtain ⟨z, hz, ⟨_, rfl⟩ | ⟨_, rfl⟩⟩ := mem_upd hy
        · exact Nat.le_refl _
        · exact h.syn _ hz
      · show (tick d).2.last = _ ∨ _
        rw [h2]
        exact h.last.imp id (upd_mem (fun _ => by rfl))
      · obtain ⟨z, hz, ⟨_, rfl⟩ | ⟨_, rfl⟩⟩ := mem_upd hy
        · exact h.named z hz
        · exact h.named _ hz
theorem cut_ok {d : St} (h : d.Ok) (nm : ByteArray) (n : Int) : (d.cut nm n).2.Ok := by
  unfold St.cut
  split
  · exact h
  split
  · exact h
  · split
    · exact h
    split
    · exact tick_ok h
    · obtain ⟨h1, h2, h3⟩ := tick_cases d
      refine ⟨upd_srt (fun _ => by rfl) h.srt, fun y hy => ?_, Nat.le_trans (total_upd_le (fun x => by simp only [List.length_take]; omega) _) h.tot, by show (upd _ _ _).length ≤ _; unfold upd; rw [List.length_map]; exact h.cnt, ?_, fun y hy => ?_, Nat.le_trans h3 h.armed⟩
      · obtain ⟨z, hz, ⟨_, rfl⟩ | ⟨_, rfl⟩⟩ := mem_upd hy
        · have := h.syn z hz
          simp only [List.length_take]
          omega
        · exact h.syn _ hz
      · show (tick d).2.last = _ ∨ _
        rw [h2]
        exact h.last.imp id (upd_mem (fun _ => by rfl))
      · obtain ⟨z, hz, ⟨_, rfl⟩ | ⟨_, rfl⟩⟩ := mem_upd hy
        · exact h.named z hz
        · exact h.named _ hz
theorem rename_ok {d : St} (h : d.Ok) (a b : ByteArray) : (d.rename a b).2.Ok := by
  unfold St.rename
  split
  · exact h
  split
  · exact h
  · rename_i hd f hl
    split
    · exact h
    split
    · exact tick_ok h
    split
    · exact tick_ok h
    · rename_i hk ht hab
      obtain ⟨h1, h2, h3⟩ := tick_cases d
      obtain ⟨hf, hfn⟩ := look_some hl
      have hsub : ∀ y ∈ era Fl.nm b (era Fl.nm a d.fs), y ∈ d.fs ∧ y.nm ≠ a ∧ y.nm ≠ b := fun y hy => ⟨(mem_era.1 (mem_era.1 hy).1).1, (mem_era.1 (mem_era.1 hy).1).2, (mem_era.1 hy).2⟩
      refine ⟨((h.srt.era a).era b).ins (fun y hy => (hsub y hy).2.2), fun y hy => ?_, ?_, ?_, ?_, fun y hy => ?_, Nat.le_trans h3 h.armed⟩
      · rcases mem_ins.1 hy with rfl | hy
        · exact h.syn f hf
        · exact h.syn y (hsub y hy).1
      · show total (ins _ _ _) ≤ _
        rw [total_ins]
        have e1 := total_era b (era Fl.nm a d.fs)
        have e2 := total_era_mem hf hfn
        have e3 := h.tot
        simp only
        omega
      · show (ins _ _ _).length ≤ _
        rw [length_ins]
        have e1 : (era Fl.nm b (era Fl.nm a d.fs)).length ≤ (era Fl.nm a d.fs).length := List.length_filter_le _ _
        have e2 : (era Fl.nm a d.fs).length < d.fs.length := by
          unfold era
          exact List.length_filter_lt_length_iff_exists.2 ⟨f, hf, by simp [hfn]⟩
        have e3 := h.cnt
        omega
      · show (if d.last = a then b else if d.last = b then nil_ else d.last) = nil_ ∨ ∃ x ∈ ins Fl.nm _ _, Fl.nm x = (if d.last = a then b else if d.last = b then nil_ else d.last)
        split
        · exact .inr ⟨_, mem_ins.2 (.inl rfl), rfl⟩
        · rename_i ha
          split
          · exact .inl rfl
          · rename_i hb
            exact h.last.imp id (fun ⟨y, hy, e⟩ => ⟨y, mem_ins.2 (.inr (mem_era.2 ⟨mem_era.2 ⟨hy, fun e2 => ha (e.symm.trans e2)⟩, fun e2 => hb (e.symm.trans e2)⟩)), e⟩)
      · rcases mem_ins.1 hy with rfl | hy
        · simpa using hk
        · exact h.named y (hsub y hy).1
theorem remove_ok {d : St} (h : d.Ok) (nm : ByteArray) : (d.remove nm).2.Ok := by
  unfold St.remove
  split
  · exact h
  split
  · exact h
  · split
    · exact tick_ok h
    · obtain ⟨h1, h2, h3⟩ := tick_cases d
      refine ⟨h.srt.era nm, fun y hy => h.syn y (mem_era.1 hy).1, Nat.le_trans (total_era nm d.fs) h.tot, Nat.le_trans (List.length_filter_le _ _) h.cnt, ?_, fun y hy => h.named y (mem_era.1 hy).1, Nat.le_trans h3 h.armed⟩
      show (if d.last = nm then nil_ else d.last) = nil_ ∨ ∃ x ∈ era Fl.nm _ _, Fl.nm x = (if d.last = nm then nil_ else d.last)
      split
      · exact .inl rfl
      · rename_i ha
        exact h.last.imp id (fun ⟨y, hy, e⟩ => ⟨y, mem_era.2 ⟨hy, fun e2 => ha (e.symm.trans e2)⟩, e⟩)
theorem kept_le' (last : ByteArray) (keep : Int) (x : Fl) (h : x.syn ≤ x.dat.length) : kept last keep x ≤ x.dat.length := by unfold kept; split <;> omega
theorem crash_ok {d : St} (h : d.Ok) (keep : Int) : (d.crash keep).Ok := by
  refine ⟨?_, fun y hy => ?_, ?_, ?_, .inl rfl, fun y hy => ?_, Nat.zero_le _⟩
  · show Srt Fl.nm (d.fs.map _)
    unfold Srt
    rw [List.pairwise_map]
    exact h.srt
  · obtain ⟨x, hx, rfl⟩ := List.mem_map.1 hy
    have := kept_le' d.last keep x (h.syn x hx)
    simp only [List.length_take]
    omega
  · have : total (d.crash keep).fs ≤ total d.fs := by
      show total (d.fs.map _) ≤ _
      generalize d.fs = l
      induction l with
      | nil => exact Nat.le_refl _
      | cons z r ih =>
        rw [List.map_cons, total_cons, total_cons]
        simp only [List.length_take] at ih ⊢
        omega
    exact Nat.le_trans this h.tot
  · show (d.fs.map _).length ≤ _
    rw [List.length_map]
    exact h.cnt
  · obtain ⟨x, hx, rfl⟩ := List.mem_map.1 hy
    exact h.named x hx
end Go.Proofs.Ytflajlnknimjaaa.Dk
