/- named, Create, Remove, Sync, Cut of the disk. -/
import Derived.Test.YtflajlnknimjaaaDkW1
namespace Go.Proofs.Ytflajlnknimjaaa.Dk
open Go.RowKit Go.Maps Go.Proofs.YtflajlnknimjaaaW.PrintWords Go.Proofs.Ytflajlnknimjaaa.Syn
open Go.Proofs.Ytflajlnknimjaaa.PDiskLoads (disk_named.f disk_named.l0 disk_named.calls)

/-! named -/
theorem bt_nat (s : ByteArray) (i : Nat) (h : i < s.size) : bt s i = ((s.data.toList[i]'(by simpa using h)).toNat : Int) := by
  unfold bt
  rw [dif_pos (by simpa using h)]
  simp
  rfl
theorem drop_all (s : ByteArray) (i : Nat) (h : i < s.size) (p : UInt8 → Bool) : (s.data.toList.drop i).all p = (p (s.data.toList[i]'(by simpa using h)) && (s.data.toList.drop (i + 1)).all p) := by
  rw [List.drop_eq_getElem_cons (by simpa using h), List.all_cons]
theorem wrap_small {i : Int} (h0 : 0 ≤ i) (h : i ≤ 9223372036854775806) : wrap64 (i + 1) = i + 1 := by unfold wrap64; omega
theorem named_l (s : ByteArray) (hs : s.size ≤ 9223372036854775806) (d : Nat) : ∀ (k i : Nat), i ≤ s.size → s.size - i = d → d < k →
    disk_named.l0 k s i = some ((s.data.toList.drop i).all okByte && (decide (0 < s.size) && decide (s.size ≤ 32))) := by
  induction d with
  | zero =>
    intro k i h1 h2 h3
    obtain ⟨k, rfl⟩ : ∃ m, k = m + 1 := ⟨k - 1, by omega⟩
    have hi : i = s.size := by omega
    subst hi
    simp only [disk_named.l0]
    rw [if_neg (by omega), List.drop_eq_nil_of_le (by simp)]
    by_cases h0 : 0 < s.size
    · rw [if_pos (by omega)]; simp [h0]; omega
    · rw [if_neg (by omega)]; simp [h0]
  | succ d ih =>
    intro k i h1 h2 h3
    obtain ⟨k, rfl⟩ : ∃ m, k = m + 1 := ⟨k - 1, by omega⟩
    have hi : i < s.size := by omega
    have hw : wrap64 ((i : Int) + 1) = ((i + 1 : Nat) : Int) := by rw [wrap_small (by omega) (by omega)]; omega
    have hnext := ih k (i + 1) (by omega) (by omega) (by omega)
    simp only [disk_named.l0]
    rw [if_pos (by omega), if_pos (by omega), hw, hnext, bt_nat s i hi, drop_all s i hi, Bool.and_assoc]
    generalize s.data.toList[i]'(by simpa using hi) = c
    generalize ((s.data.toList.drop (i + 1)).all okByte && (decide (0 < s.size) && decide (s.size ≤ 32))) = r at *
    have hc : okByte c = (decide (97 ≤ c.toNat ∧ c.toNat ≤ 122) || decide (48 ≤ c.toNat ∧ c.toNat ≤ 57) || decide (c.toNat = 45) || decide (c.toNat = 46)) := rfl
    rw [hc]
    clear hc hnext hw ih
    generalize c.toNat = x
    repeat' split
    all_goals (cases r <;> simp <;> omega)
theorem named_calls (s : ByteArray) (w : World) (hs : s.size ≤ 9223372036854775806) : Calls Try.prog 33 #[.string s] w fun e w' => e = .returned (.bool (okName s)) ∧ Drawn0 w w' := by
  refine disk_named.calls (s.size + 1) s (okName s) w ?_
  have := named_l s hs s.size (s.size + 1) 0 (by omega) (by omega) (by omega)
  unfold disk_named.f okName
  simpa using this

/-- What an operation of the disk leaves. -/
def Post (F : Nat → Prop) (p : Nat) (w : World) (r : Int × St) (e : Ending) (w' : World) : Prop := e = .returned (.int .i64 r.1) ∧ DiskAt w' (Gr F w w') p r.2 ∧ Chg F w w'

section
variable {F : Nat → Prop} {p m : Nat} {w w1 : World} {L : List FileC} {la : ByteArray} {ar : Nat} {dn : Bool}
theorem Post.same {d : St} {r : Int} (h : DiskAt w F p d) (hd : w.drewN 0 = w := rfl) (n : Nat) : Post F p w (r, d) (.returned (.int .i64 r)) (w.drewN n) := by
  refine ⟨rfl, ?_, Chg.drewN _ _⟩
  have h1 := h.chg (G := fun _ => False) (w' := w.drewN n) (Chg.drewN _ _) (fun _ _ h => h)
  obtain ⟨m, L, hI, hL⟩ := h1
  exact ⟨m, L, hI.wide (fun _ h => .inl h) (Gr.lt h.lt (Nat.le_refl _)), hL⟩
/-- The struct's cells have changed. -/
theorem DiskIs.head (h : DiskIs w F p m L la ar dn) {la' : ByteArray} {ar' : Nat} {dn' : Bool} (hb : w1.heap[p]? = some (.cells #[.map (some m), .string la', .int .i64 ar', .bool dn'] 64 (0, 0))) (hc : Chg (· = p) w w1) (hs : w1.heap.size = w.heap.size) :
    DiskIs w1 F p m L la' ar' dn' := by
  have e : ∀ k, F k → k ≠ p → w1.heap[k]? = w.heap[k]? := fun k hk hn => hc.block k (h.lt k hk) hn
  refine ⟨hb, h.fp, h.fm, h.map.heap (e m h.fm (h.map.ne h.blk)), fun c hc' => ?_, h.sep, fun k hk => by rw [hs]; exact h.lt k hk⟩
  have hf := h.files c hc'
  refine hf.heap (fun k hk => e k ?_ ?_) (fun _ h => h)
  · rcases hk with rfl | hk
    · exact hf.2.1
    · exact hf.2.2.2 k hk
  · rcases hk with rfl | hk
    · exact ne_of_type hf.1 h.blk (by decide)
    · obtain ⟨cur, hcur⟩ := hf.2.2.1.blk hk
      exact ne_of_type hcur h.blk (by decide)
end

theorem tick_fs (d : St) : (tick d).2.fs = d.fs := by unfold tick; split <;> rfl
theorem tick_last (d : St) : (tick d).2.last = d.last := by unfold tick; split <;> rfl
theorem Post.ticked {F : Nat → Prop} {p m : Nat} {w w1 : World} {L : List FileC} {d : St} {nd : Nat} {r : Int} (h : DiskIs w F p m L d.last d.armed d.down) (hL : L.map FileC.abs = d.fs)
    (hb : w1.heap[p]? = some (.cells #[.map (some m), .string d.last, .int .i64 (tick d).2.armed, .bool (tick d).2.down] 64 (0, 0))) (hs : w1.heap.size = w.heap.size) (hc : Chg (· = p) (w.drewN nd) w1) :
    Post F p w (r, (tick d).2) (.returned (.int .i64 r)) w1 := by
  have hc' : Chg (· = p) w w1 := (Chg.drewN w nd).same hc
  refine ⟨rfl, ⟨m, L, ?_, by rw [hL, tick_fs]⟩, hc'.mono (fun k hk => by rw [hk]; exact h.fp)⟩
  rw [tick_last]
  exact (h.head hb hc' hs).wide (fun _ h => .inl h) (fun k hk => hk.elim (fun h1 => by have := h.lt k h1; omega) (fun h1 => h1.2))
/-- A new file has come. -/
theorem DiskIs.added {F : Nat → Prop} {p m : Nat} {w1 w2 : World} {L : List FileC} {la : ByteArray} {ar : Nat} {dn : Bool} (h : DiskIs w1 F p m L la ar dn) {nm : ByteArray} (hno : look FileC.nm nm L = none)
    {cs : Array Value} (hcs : cs = #[.slice none 0 0, .int .i64 0]) (hm : MapAt w2 m (ins FileC.nm ⟨nm, w1.heap.size, .slice none 0 0, [], 0⟩ (era FileC.nm nm L))) (ht : (w1.alloc (.cells cs 68)).mapTurned w2 m) :
    DiskIs w2 (Gr F w1 w2) p m (ins FileC.nm ⟨nm, w1.heap.size, .slice none 0 0, [], 0⟩ L) la ar dn := by
  subst hcs
  obtain ⟨hs, hk⟩ := turned_heap ht
  rw [era_none (look_none.1 hno)] at hm
  have hsz : w2.heap.size = w1.heap.size + 1 := by rw [hs]; simp
  have hmlt : m < w1.heap.size := h.lt m h.fm
  have e : ∀ k, k < w1.heap.size → k ≠ m → w2.heap[k]? = w1.heap[k]? := fun k h1 h2 => (hk k h2).trans (Below.heap_alloc w1 _ k h1)
  have hF : ∀ k, F k → Gr F w1 w2 k := fun _ h => .inl h
  refine ⟨(e p (h.lt p h.fp) (fun e => h.map.ne h.blk e.symm)).trans h.blk, hF _ h.fp, hF _ h.fm, hm, fun c hc => ?_, ?_, Gr.lt h.lt (by omega)⟩
  · rcases mem_ins.1 hc with rfl | hc
    · refine ⟨?_, .inr ⟨Nat.le_refl _, by show w1.heap.size < _; omega⟩, .inl ⟨rfl, rfl⟩, fun g hg => by simp [Value.ownBlock] at hg⟩
      show w2.heap[w1.heap.size]? = _
      rw [hk _ (by omega)]
      exact sb_new w1 _
    · have hf := h.files c hc
      refine hf.heap (fun k hk' => e k ?_ ?_) hF
      · rcases hk' with rfl | hk'
        · exact h.lt _ hf.2.1
        · exact h.lt _ (hf.2.2.2 k hk')
      · rcases hk' with rfl | hk'
        · exact fun e => h.map.ne hf.1 e.symm
        · obtain ⟨cur, hcur⟩ := hf.2.2.1.blk hk'
          exact fun e => h.map.ne hcur e.symm
  · have hnew : ∀ c ∈ L, Sep ⟨nm, w1.heap.size, .slice none 0 0, [], 0⟩ c := fun c hc => ⟨by have := h.lt _ (h.files c hc).2.1; show w1.heap.size ≠ c.blk; omega, fun g hg => by simp [Value.ownBlock] at hg⟩
    have hsep := h.sep
    clear hm e hF h hmlt hno
    induction L with
    | nil => simp [ins]
    | cons z r ih =>
      unfold ins
      have h' := List.pairwise_cons.1 hsep
      split
      · exact List.pairwise_cons.2 ⟨hnew, hsep⟩
      · refine List.pairwise_cons.2 ⟨fun y hy => ?_, ih (fun c hc => hnew c (List.mem_cons_of_mem _ hc)) h'.2⟩
        rcases mem_ins.1 hy with rfl | hy
        · exact (hnew z List.mem_cons_self).symm
        · exact h'.1 y hy

set_option maxRecDepth 100000 in
set_option maxHeartbeats 400000 in
theorem create_calls {F : Nat → Prop} {p : Nat} {w : World} {d : St} (nm : ByteArray) (h : DiskAt w F p d) (ok : d.Ok) (hn : nm.size ≤ 140737488351232) :
    Calls Try.prog 12 #[.pointer (some ⟨p, 0, none⟩), .string nm] w (Post F p w (d.create nm)) := by
  have hn1 : nm.size ≤ maxLen := by unfold maxLen; omega
  have hn2 : nm.size ≤ 9223372036854775806 := by omega
  have h' := h
  obtain ⟨m, L, hI, hL⟩ := h
  have b0 := sb_cell hI.blk 0
  have b3 := sb_cell hI.blk 3
  simp at b0 b3
  unfold St.create
  by_cases hd : d.down = true
  · rw [if_pos hd]
    rw [hd] at b3
    clear hI hL
    go_enter Try.func12, Try.ntmps12
    go_wp2
    go_ret
    exact Post.same h' rfl 0
  rw [if_neg hd]
  have hd' : d.down = false := by simpa using hd
  rw [hd'] at b3
  by_cases hk : okName nm = false
  · rw [if_pos hk]
    clear hI hL
    go_enter Try.func12, Try.ntmps12
    go_wp2_with (go_at_call 33; refine (named_calls _ _ hn2).mono ?_; rintro e w' ⟨rfl, ⟨nd, rfl⟩⟩)
    go_ret
    exact Post.same h' rfl nd
  rw [if_neg hk]
  have hk' : okName nm = true := by simpa using hk
  have hlk : (look Fl.nm nm d.fs).isSome = (look FileC.nm nm L).isSome := by rw [← hL, map_look (ka := FileC.nm) (kb := Fl.nm) FileC.abs (fun _ => rfl)]; simp
  by_cases hh : (look FileC.nm nm L).isSome = true
  · rw [if_pos (by rw [hlk]; exact hh)]
    have HB := Lib.hid hI.blk
    have HM := Lib.hid hI.map
    clear hI hL hlk hk hd hd'
    go_enter Try.func12, Try.ntmps12
    go_wp2_with (first
      | (go_at_call 33; refine (named_calls _ _ hn2).mono ?_; rintro e w' ⟨rfl, ⟨nd, rfl⟩⟩)
      | (go_at_call 34; refine (has_calls p m _ L nm _ _ _ hn1 (by exact HB.out) (by exact HM.out)).mono ?_; rintro e w' ⟨rfl, rfl⟩))
    go_ret
    exact Post.same h' rfl nd
  rw [if_neg (by rw [hlk]; exact hh)]
  have hh' : (look FileC.nm nm L).isSome = false := by simpa using hh
  have hlen : d.fs.length = L.length := by rw [← hL]; simp
  have hcnt := ok.cnt
  have HB := Lib.hid hI.blk
  have HM := Lib.hid hI.map
  have hml := hI.map.len
  by_cases hf : 256 ≤ d.fs.length
  · rw [if_pos hf]
    have hf' : 256 ≤ L.length := by omega
    clear hI hL hlk hk hd hd' hf hcnt ok hlen
    go_enter Try.func12, Try.ntmps12
    go_wp2_with (first
      | (go_at_call 33; refine (named_calls _ _ hn2).mono ?_; rintro e w' ⟨rfl, ⟨nd, rfl⟩⟩; have hml' := MapAt.len (w := w.drewN nd) HM.out; clear hml)
      | (go_at_call 34; refine (has_calls p m _ L nm _ _ _ hn1 (by exact HB.out) (by exact HM.out)).mono ?_; rintro e w' ⟨rfl, rfl⟩))
    go_ret
    exact Post.same h' rfl nd
  rw [if_neg hf]
  have hf' : L.length < 256 := by omega
  have hin : look FileC.nm nm L = none := by simpa using hh'
  have hT := tick_calls p m
  cases ht : (tick d).1 with
  | true =>
    rw [if_pos rfl]
    have HI := Lib.hid hI
    have HT := Lib.hid ht
    clear hI hlk hk hd hf hcnt hlen ht hT
    go_enter Try.func12, Try.ntmps12
    go_wp2_with (first
      | (go_at_call 33; refine (named_calls _ _ hn2).mono ?_; rintro e w' ⟨rfl, ⟨nd, rfl⟩⟩; have hml' := MapAt.len (w := w.drewN nd) HM.out; clear hml)
      | (go_at_call 34; refine (has_calls p m _ L nm _ _ _ hn1 (by exact HB.out) (by exact HM.out)).mono ?_; rintro e w' ⟨rfl, rfl⟩)
      | (go_at_call 35; refine (tick_calls p m _ d.last d.armed d.down d rfl rfl ok.armed (by exact HB.out)).mono ?_; rintro e w1 ⟨rfl, hb1, hs1, hc1⟩; rw [HT.out]; have HX := Lib.hid hb1; clear hb1))
    go_ret
    exact Post.ticked HI.out hL HX.out hs1 hc1
  | false =>
    rw [if_neg (by simp)]
    have HI := Lib.hid hI
    have HT := Lib.hid ht
    have HN := Lib.hid hin
    clear hI hlk hk hd hf hcnt hlen ht hT hin
    go_enter Try.func12, Try.ntmps12
    go_wp2_with (first
      | (go_at_call 33; refine (named_calls _ _ hn2).mono ?_; rintro e w' ⟨rfl, ⟨nd, rfl⟩⟩; have hml' := MapAt.len (w := w.drewN nd) HM.out; clear hml)
      | (go_at_call 34; refine (has_calls p m _ L nm _ _ _ hn1 (by exact HB.out) (by exact HM.out)).mono ?_; rintro e w' ⟨rfl, rfl⟩)
      | (go_at_call 35; refine (tick_calls p m _ d.last d.armed d.down d rfl rfl ok.armed (by exact HB.out)).mono ?_; rintro e w1 ⟨rfl, hb1, hs1, hc1⟩; rw [HT.out]; have HX := Lib.hid hb1; have c0 := sb_cell hb1 0; simp at c0; clear hb1 hml'; have HI1 := Lib.hid (HI.out.head HX.out ((Chg.drewN w nd).same hc1) hs1); obtain ⟨w2, hrun, hm2, ht2⟩ := MapAt.store (w := w1.alloc (.cells #[.slice none 0 0, .int .i64 0] 68)) (HI1.out.map.heap (Below.heap_alloc w1 _ m (HI1.out.lt m HI1.out.fm))) ⟨nm, w1.heap.size, .slice none 0 0, [], 0⟩ nm w1.heap.size rfl rfl hn1 (by unfold maxLen; omega); have HM2 := Lib.hid hm2; have HT2 := Lib.hid ht2; have HS := Lib.hid hs1; clear hm2 ht2 hs1))
    go_ret
    have hc : Chg F w w1 := ((Chg.drewN w nd).same hc1).mono (fun k hk => by rw [hk]; exact HI.out.fp)
    have hD := HI1.out.added HN.out rfl HM2.out HT2.out
    have hc2 : Chg F w1 w2 := (Chg.alloc w1 _).same (turned_chg HT2.out HI.out.fm)
    refine ⟨rfl, ⟨m, ins FileC.nm ⟨nm, w1.heap.size, .slice none 0 0, [], 0⟩ L, ?_, ?_⟩, hc.same hc2⟩
    · simp only [tick_last]
      refine hD.wide ?_ (Gr.lt HI.out.lt (hc.same hc2).size)
      rintro k (hk | hk)
      · exact .inl hk
      · exact .inr ⟨Nat.le_trans hc.size hk.1, hk.2⟩
    · rw [map_ins (ka := FileC.nm) (kb := Fl.nm) FileC.abs (fun _ => rfl), hL]
      rfl
end Go.Proofs.Ytflajlnknimjaaa.Dk
