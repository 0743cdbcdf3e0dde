/- List of the disk. -/
import Derived.Test.YtflajlnknimjaaaIt
import Derived.Test.YtflajlnknimjaaaDkW8
import Derived.Sort.KeysCollected
import Derived.Sort.Walk0
namespace Go.Proofs.Ytflajlnknimjaaa.Dk
open Go.RowKit Go.Maps Go.Proofs.YtflajlnknimjaaaW.PrintWords Go.Proofs.YtflajlnknimjaaaW.PrintMore Go.Proofs.Ytflajlnknimjaaa.Syn

theorem keys_calls (mb : Option Nat) (w : World) : Calls Try.prog 42 #[.map mb] w fun e w' => e = .returned (.func (.func 61) #[] #[.pointer (some ⟨w.heap.size, 0, none⟩)]) ∧ w' = w.alloc (.cells #[.map mb] 62) :=
  callsIn_wide.1 (Try.maps_Keys_42 mb w)
theorem before_lt (a b : List UInt8) : bytesBefore a b = decide (a < b) := by
  induction a generalizing b with
  | nil => cases b <;> simp [bytesBefore]
  | cons x xs ih =>
    cases b with
    | nil => simp [bytesBefore]
    | cons y ys =>
      rw [bytesBefore, ih ys]
      by_cases h : x = y
      · subst h; simp [List.cons_lt_cons_iff]
      · have hne : ¬ x.toNat = y.toNat := fun e => h (UInt8.toNat_inj.mp e)
        simp [List.cons_lt_cons_iff, h, UInt8.lt_iff_toNat_lt]
theorem strKeys_mapD (L : List FileC) : strKeys (mapD L) = L.map fun c => bts c.nm := by simp [strKeys, mapD, entry, strOf]
theorem sort_srt {L : List FileC} (h : Srt FileC.nm L) : (L.map fun c => bts c.nm).mergeSort (fun x y => decide (x ≤ y)) = L.map fun c => bts c.nm := by
  apply List.mergeSort_of_pairwise
  rw [List.pairwise_map]
  refine List.Pairwise.imp ?_ h
  intro a b hab
  rw [before_lt] at hab
  simp only [decide_eq_true_eq] at hab ⊢
  exact List.le_of_lt hab
def names (d : St) : List ByteArray := d.fs.map Fl.nm

set_option maxHeartbeats 400000 in
theorem list_calls {F : Nat → Prop} {p : Nat} {w : World} {d : St} (h : DiskAt w F p d) (ok : d.Ok) :
    Calls Try.prog 18 #[.pointer (some ⟨p, 0, none⟩)] w fun e w' => ∃ v, e = .returned v ∧ Kd.R Kd.string 9 w' w.heap.size (fun _ => True) v (names d) ∧ Below w.heap.size w w' := by
  obtain ⟨m, L, hI, hL⟩ := h
  have b0 := sb_cell hI.blk 0
  simp at b0
  have hn : L.length = d.fs.length := by rw [← hL, List.length_map]
  have hle := ok.cnt
  have hsrt := srt_abs hL ok.srt
  have hnm : names d = L.map FileC.nm := by rw [names, ← hL, List.map_map]; rfl
  have HM := Lib.hid hI.map
  have HS := Lib.hid hsrt
  have HN := Lib.hid hnm
  have hle2 : L.length ≤ 1048576 := by omega
  have HL := Lib.hid hle2
  clear hI hL hn hle hle2 hsrt hnm ok
  go_enter Try.func18, Try.ntmps18
  go_wp2_with (first
    | (go_at_call 42; refine (keys_calls _ _).mono ?_; rintro e w' ⟨rfl, rfl⟩)
    | (go_at_call 41; refine (callsIn_wide.1 (Try.slices_Sorted_keys_41_42 m _ _ RP w (by exact HM.out) (by rw [size_mapD]; have := HL.out; unfold maxLen; omega) (by rw [size_mapD]; have := HL.out; omega))).mono ?_; rintro e w' ⟨v, ss, rfl, hS, hrow, hnil, hb⟩))
  go_ret
  refine ⟨v, rfl, ?_, ?_⟩
  · rw [strKeys_mapD] at hS
    have e1 := mergeSort_of_perm hS
    have e2 : ss.length = L.length := by rw [hS.length_eq, List.length_map]
    rw [show (ss.mergeSort fun x y => decide (x ≤ y)) = L.map fun c => bts c.nm from e1.trans (sort_srt HS.out)] at hrow
    rw [HN.out]
    refine Kd.R_lower (Kd.R_of_own ?_ (fun _ _ => trivial)) (by simp : w.heap.size ≤ (w.alloc (.cells #[.map (some m)] 62)).heap.size)
    rw [e2] at hrow
    simpa [encs, List.map_map, Function.comp_def, encStr] using hrow
  · exact ((Chg.alloc (F := fun _ => False) w _).same (Chg.of_below hb)).below (fun _ h => h.elim) (Nat.le_refl _)
end Go.Proofs.Ytflajlnknimjaaa.Dk
