/- What a disk's names come to. -/
import Derived.Test.YtlngljhinboglaaDkO
import Derived.Test.YtlngljhinboglaaSkL
namespace Go.Proofs.Ytlngljhinboglaa.DkQ
open Go.Shelf Go.Sort
open Go.RowKit Go.WideMaps Go.ChangeMaps Go.MapKept Go.Maps Go.Lib Go.Proofs.YtlngljhinboglaaW.PrintWords Go.Proofs.YtlngljhinboglaaW.PrintLast Go.Proofs.YtlngljhinboglaaW.PrintMore Go.Proofs.Ytlngljhinboglaa.Sl Go.Proofs.Ytlngljhinboglaa.DkP Go.Proofs.Ytlngljhinboglaa.DkS Go.Proofs.Ytlngljhinboglaa.DkW Go.Proofs.Ytlngljhinboglaa.DkT Go.Proofs.Ytlngljhinboglaa.DkV Go.Proofs.Ytlngljhinboglaa.DkC Go.Proofs.Ytlngljhinboglaa.DkM Go.Proofs.Ytlngljhinboglaa.DkN Go.Proofs.Ytlngljhinboglaa.DkO
set_option linter.unusedVariables false
set_option linter.unusedSimpArgs false
theorem sorts (m : Nat) : AnyZ.SortsIn Try.prog Try.sortedS_ren Fence.wide m :=
  ⟨fun blk off cap ss W hH hblk hsz => callsIn_wide.2 (AnyM.slices_Sort_string Try.sortS blk off cap ss W hH hblk hsz),
   fun p cap W => callsIn_wide.2 (AnyM.slices_Sort_string_none Try.sortS p cap W)⟩
theorem before_le : ∀ {a b : List UInt8}, bytesBefore a b = true → a ≤ b
  | [], _, _ => List.nil_le _
  | _ :: _, [], h => by simp [bytesBefore] at h
  | x :: a, y :: b, h => by
    simp only [bytesBefore, Bool.or_eq_true, Bool.and_eq_true, decide_eq_true_eq, beq_iff_eq] at h
    rw [List.cons_le_cons_iff]
    rcases h with h | ⟨h, h2⟩
    · exact .inl h
    · exact .inr ⟨h, before_le h2⟩
theorem keys_mapD (l : FS Value) : strKeys (mapD l) = l.map (·.1) := by
  unfold mapD strKeys
  simp only [List.map_map]
  apply List.map_congr_left
  intro p _
  rfl
theorem sorted_keys {β : Type} {l : FS β} (h : Rising l) : (l.map (·.1)).mergeSort (fun x y => decide (x ≤ y)) = l.map (·.1) := by
  apply List.mergeSort_of_pairwise
  rw [List.pairwise_map]
  exact List.Pairwise.imp (fun h => decide_eq_true (before_le h)) h
def names (f : FS Cnt) : List ByteArray := f.map fun p => ⟨p.1.toArray⟩
set_option maxHeartbeats 4000000 in
theorem Names_calls (w0 w : World) (L : List Asn) (g : Nat) (d : DS) (hr : Rising d.files) (hn : d.files.length ≤ 1000000) (h : Sat w0 w (Dk g d :: L)) :
    Calls Try.prog 26 #[.pointer (some ⟨g, 0, none⟩)] w fun e w' => ∃ v, e = .returned v ∧ Kd.R Kd.string 9 w' w.heap.size (fun _ => True) v (names d.files) ∧ Below w.heap.size w w' := by
  obtain ⟨fb, lb, A, c, ps, _, _, h1⟩ := Dk.open h
  have x2 := h1.cell 2 (v := .map (some fb)) rfl
  obtain ⟨F, hF⟩ := Store.mapAt (h1.nth 1 rfl) (m := (fb, d.files)) (by simp)
  obtain ⟨_, E, hE, hown, hc⟩ := hF
  simp only at hE hown
  have hlen : E.length = d.files.length := by rw [← hE]; unfold mv; simp
  have hsz : Maps.size (mapD (mv (·.1) E)) = d.files.length := by unfold mapD mv; rw [Maps.size_eq]; simp [hlen]
  have hmax : Maps.size (mapD (mv (·.1) E)) ≤ maxLen := by rw [hsz]; simp only [maxLen]; omega
  have hbytes : Maps.size (mapD (mv (·.1) E)) * 16 ≤ 140737488355328 := by rw [hsz]; omega
  have HK := Aside0.mk (show strKeys (mapD (mv (·.1) E)) = d.files.map (·.1) from by
    rw [keys_mapD, ← hE]
    unfold mv
    simp)
  have HR := Aside0.mk hr
  clear hsz hc hlen h h1 hr hn hE
  refine (callsIn_wide (n := 6)).1 ?_
  have hbl := hown.lt
  have hseq : SeqGives Fence.wide 2 Try.prog 57 #[.pointer (some ⟨w.heap.size, 0, none⟩)] encStr (fun ss => ss.Perm (strKeys (mapD (mv (·.1) E)))) (Maps.size (mapD (mv (·.1) E))) (w.alloc (.cells #[.map (some fb)] 53)) :=
    AnyZ.keys_gives (ρ := Try.keysS_ren) { Try.keysS with } Fence.wide _ trivial rfl (by omega) w.heap.size fb _ _ _ (by simp) (by simp) (by
      obtain ⟨es, clock, hb, Ft, hs, hD⟩ := hown
      exact ⟨es, clock, (Below.heap_alloc _ _ fb hbl).trans hb, Ft, hs, hD⟩)
  have cK : ∀ mb W, CallsIn Fence.wide 5 Try.prog 45 #[.map mb] W fun e w' => e = .returned (.func (.func 57) #[] #[.pointer (some ⟨W.heap.size, 0, none⟩)]) ∧ w' = W.alloc (.cells #[.map mb] 53) := fun mb W => AnyZ.keys_in Try.keysS Fence.wide 5 trivial rfl mb W
  have cS := AnyZ.sorted_in Try.sortedS Fence.wide 5 trivial trivial trivial trivial rfl (by omega) (sorts _) (enters_of Try.func56 (by kernel_rfl) rfl) 57 #[.pointer (some ⟨w.heap.size, 0, none⟩)] trivial (enters_of Try.func57 (by kernel_rfl) rfl) _ _ hmax hbytes _ hseq
  change CallsIn _ _ Try.prog 44 _ _ _ at cS
  have hfK : Fence.wide.fn 45 := trivial
  have hfS : Fence.wide.fn 44 := trivial
  refine callsIn_of_wp Try.func26 rfl trivial ?_ rfl
  simp only [Try.ntmps26, List.size_toArray, List.length_cons, List.length_nil, Nat.reduceAdd, Nat.reduceSub, Array.replicate_succ, Array.replicate_zero, List.push_toArray, List.append_toArray, List.nil_append, List.cons_append]
  gi_wp2_with (first
    | (gi_at_call 45; refine (cK _ _).mono ?_; rintro e w' ⟨rfl, rfl⟩)
    | (gi_at_call 44; refine cS.mono ?_; rintro e w' ⟨v, ss, rfl, hS, hrow, hnil, hb⟩))
  go_ret
  rw [HK.out] at hS
  have hms : ss.mergeSort (fun x y => decide (x ≤ y)) = d.files.map (·.1) := (mergeSort_of_perm hS).trans (sorted_keys HR.out)
  rw [hms] at hrow
  have hl : ss.length = (names d.files).length := by rw [hS.length_eq]; unfold names; simp
  have hrow2 : w'.ownsRow w.heap.size 9 1 v ss.length ((d.files.map (·.1)).map encStr) := ownsRow_base_a hrow (by simp)
  rw [hl] at hrow2
  refine ⟨v, rfl, ?_, ((Below.refl _ w).alloc (Nat.le_refl _) _).trans (hb.mono (by simp))⟩
  refine Kd.R_of_own (enc := Value.string) ?_ fun _ _ => trivial
  have : encs Value.string (names d.files) = (d.files.map (·.1)).map encStr := by
    unfold names encs
    simp only [List.map_map]
    rfl
  rw [this]
  exact hrow2
end Go.Proofs.Ytlngljhinboglaa.DkQ
