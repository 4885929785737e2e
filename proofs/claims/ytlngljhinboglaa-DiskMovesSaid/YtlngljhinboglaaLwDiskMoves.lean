/- The law DiskMoves: in plain words, and its walk. -/
import Derived.Test.YtlngljhinboglaaDkQ
import Derived.Test.YtlngljhinboglaaDkL
namespace Go.Proofs.Ytlngljhinboglaa.LwDiskMoves
open Go.RowKit Go.WideMaps Go.ChangeMaps Go.MapKept Go.Maps Go.Lib Go.Proofs.YtlngljhinboglaaW.PrintWords Go.Proofs.YtlngljhinboglaaW.PrintLast Go.Proofs.YtlngljhinboglaaW.PrintMore Go.Proofs.Ytlngljhinboglaa.Sl Go.Proofs.Ytlngljhinboglaa.DkP Go.Proofs.Ytlngljhinboglaa.DkS Go.Proofs.Ytlngljhinboglaa.DkW Go.Proofs.Ytlngljhinboglaa.DkT Go.Proofs.Ytlngljhinboglaa.DkV Go.Proofs.Ytlngljhinboglaa.DkC Go.Proofs.Ytlngljhinboglaa.DkM Go.Proofs.Ytlngljhinboglaa.DkN Go.Proofs.Ytlngljhinboglaa.DkO Go.Proofs.Ytlngljhinboglaa.DkQ Go.Proofs.Ytlngljhinboglaa.DkL
set_option linter.unusedVariables false
set_option linter.unusedSimpArgs false
def cn (s : ByteArray) : Cnt := s.data.toList
theorem cn_len (s : ByteArray) : (cn s).length = s.size := by unfold cn; rw [Array.length_toList]; rfl
theorem cn_back (s : ByteArray) : (⟨(cn s).toArray⟩ : ByteArray) = s := by unfold cn; cases s; rfl
theorem first {a s : ByteArray} (hf : fits a = true) (hs : s.size ≤ 4096) : ((DS.new 65536).append a s).2 = 0 ∧ Live 65536 ((DS.new 65536).append a s).1 1 4096 ∧ ((DS.new 65536).append a s).1.files = [(nm a, cn s)] ∧ ((DS.new 65536).append a s).1.pend.length = 1 := by
  have h0 : Live 65536 (DS.new 65536) 0 0 := Live.start (by omega) rfl
  obtain ⟨h1, h2, _, _⟩ := h0.yes hf (by omega) (s := s) (show ((tot [] : Nat) : Int) + s.size ≤ 65536 by simp only [tot]; omega)
  have e : (DS.new 65536).append a s = (DS.new 65536).change (.app a s) := by
    unfold DS.append
    rw [if_neg (by rw [hf]; simp), if_neg (by simp only [DS.new, tot]; omega)]
  refine ⟨h1, h2.mono (Nat.le_refl _) (by omega), ?_, ?_⟩
  · rw [e, h0.change]
    show put (nm a) ([] ++ (cn s).take s.size) [] = _
    rw [List.nil_append, List.take_of_length_le (by rw [cn_len]; exact Nat.le_refl _)]
    rfl
  · rw [e, h0.change]
    rfl
theorem move {d : DS} {a b : ByteArray} {c : Cnt} {N : Nat} (h : Live 65536 d N 4096) (ha : fits a = true) (hb : fits b = true) (hf : d.files = [(nm a, c)]) : (d.rename a b).2 = 0 ∧ Live 65536 (d.rename a b).1 (N + 1) 4096 ∧ (d.rename a b).1.files = [(nm b, c)] ∧ (d.rename a b).1.pend.length = d.pend.length + 1 := by
  have hg : get (nm a) d.files = some c := by rw [hf]; simp [DkP.get]
  have e : d.rename a b = d.change (.ren a b) := by
    unfold DS.rename
    rw [if_neg (by rw [ha, hb]; simp), if_neg (by rw [hg]; simp)]
  have hk := ok_change h.ok (c := .ren a b) ⟨fits_le ha, fits_le hb⟩
  rw [e]
  rw [h.change] at hk ⊢
  have hff : (Ch.ren a b).go (Ch.ren a b).size d.files = [(nm b, c)] := by
    simp only [Ch.go]
    rw [hg, hf]
    simp [DkP.del, DkP.put, DkP.ins]
  refine ⟨rfl, ⟨hk, h.rm, h.de, h.lf, ?_⟩, hff, by simp⟩
  have := h.rt
  rw [hf] at this
  show ((tot ((Ch.ren a b).go (Ch.ren a b).size d.files) : Nat) : Int) ≤ _
  rw [hff]
  exact this
theorem get_one {a b : ByteArray} {c : Cnt} : (get (nm a) [(nm b, c)] : Option Cnt) = if a.toList = b.toList then some c else none := by
  rw [ByteArray.toList_eq, ByteArray.toList_eq]
  unfold DkP.get nm
  by_cases h : b.data.toList = a.data.toList
  · simp [h]
  · rw [if_neg (fun e => h e.symm), List.find?_cons_of_neg (by simpa using h)]
    rfl
theorem tot_one (k : Nm) (s : ByteArray) : tot [(k, cn s)] = s.size := by rw [tot, cn_len]; rfl
set_option maxHeartbeats 16000000 in
set_option maxRecDepth 100000 in
theorem main_calls (W : World) (a b s : ByteArray) (ha : fits a = true) (hb : fits b = true) (hs : s.size ≤ 4096) :
    Calls Try.prog 7 #[.string a, .string b, .string s] W fun e w' => e = .returned (.bool true) ∧ Below W.heap.size W w' := by
  have ha1 : 1 ≤ a.size ∧ a.size ≤ 40 := by unfold fits at ha; rw [decide_eq_true_iff] at ha; omega
  have hb1 : 1 ≤ b.size ∧ b.size ≤ 40 := by unfold fits at hb; rw [decide_eq_true_iff] at hb; omega
  have hm : maxLen = 9223372036854775807 := rfl
  have k1 : decide ((4096 : Int) < (s.size : Int)) = false := decide_eq_false (by omega)
  have k2 : decide ((4096 : Int) < (a.size : Int)) = false := decide_eq_false (by omega)
  have k3 : decide ((4096 : Int) < (b.size : Int)) = false := decide_eq_false (by omega)
  have k4 : decide ((a.size : Int) < 1) = false := decide_eq_false (by omega)
  have k5 : decide ((40 : Int) < (a.size : Int)) = false := decide_eq_false (by omega)
  have k6 : decide ((b.size : Int) < 1) = false := decide_eq_false (by omega)
  have k7 : decide ((40 : Int) < (b.size : Int)) = false := decide_eq_false (by omega)
  have hla : a.size ≤ maxLen := by omega
  have hlb : b.size ≤ maxLen := by omega
  have h0 : Live 65536 (DS.new 65536) 0 0 := Live.start (by omega) rfl
  obtain ⟨a1, a2, a3, a4⟩ := first ha hs
  obtain ⟨d1, hd1⟩ : ∃ d1, ((DS.new 65536).append a s).1 = d1 := ⟨_, rfl⟩
  rw [hd1] at a2 a3 a4
  obtain ⟨b1, b2, b3, b4⟩ := move a2 ha hb a3
  obtain ⟨d2, hd2⟩ : ∃ d2, (d1.rename a b).1 = d2 := ⟨_, rfl⟩
  rw [hd2] at b2 b3 b4
  obtain ⟨c1, c2, c3, c4⟩ := move b2 hb ha b3
  obtain ⟨d3, hd3⟩ : ∃ d3, (d2.rename b a).1 = d3 := ⟨_, rfl⟩
  rw [hd3] at c2 c3 c4
  have D0 := Aside0.mk h0
  have D1 := Aside0.mk hd1
  have D2 := Aside0.mk hd2
  have D3 := Aside0.mk hd3
  have A1 := Aside0.mk a1
  have A2 := Aside0.mk a2
  have B1 := Aside0.mk b1
  have B2 := Aside0.mk b2
  have C1 := Aside0.mk c1
  have C2 := Aside0.mk c2
  have HN := Aside0.mk (show (names d2.files).length = 1 from by rw [b3]; rfl)
  have HRb := Aside0.mk (show (⟨((get (nm b) d2.files).getD []).toArray⟩ : ByteArray) = s ∧ (get (nm b) d2.files).isSome = true from by
    rw [b3, get_one, if_pos rfl]
    exact ⟨cn_back s, rfl⟩)
  have HRa := Aside0.mk (show (⟨((get (nm a) d3.files).getD []).toArray⟩ : ByteArray) = s ∧ (get (nm a) d3.files).isSome = true from by
    rw [c3, get_one, if_pos rfl]
    exact ⟨cn_back s, rfl⟩)
  have HU := Aside0.mk (show ((tot d3.files : Nat) : Int) = (s.size : Int) from by rw [c3, tot_one])
  have HP := Aside0.mk (show ((d3.pend.length : Nat) : Int) = 3 from by rw [c4, b4, a4]; rfl)
  have HRT := Aside0.mk (show Rising d2.files ∧ d2.files.length ≤ 1000000 from ⟨b2.ok.rf, by rw [b3]; simp⟩)
  have key : ∀ (bb : Bool), (get (nm a) d2.files).isSome = bb → (a.toList == b.toList) = bb → Calls Try.prog 7 #[.string a, .string b, .string s] W fun e w' => e = .returned (.bool true) ∧ Below W.heap.size W w' := by
    intro bb hb1' hb2'
    have HBB := Aside0.mk hb1'
    clear ha1 hb1 hm h0 a1 a2 a3 a4 hd1 b1 b2 b3 b4 hd2 c1 c2 c3 c4 hd3 ha hb hb1'
    go_enter Try.func7, Try.ntmps7
    go_upto_region 6 with (first | (go_at_call 8; go_loud ((with_reducible refine (New_calls W W [] 65536 (Sat.start W)).mono ?_); rintro e w1 ⟨g, rfl, hs1⟩; have H1 := Aside0.mk hs1; clear hs1)))
    go_upto_region 8 with (first | (go_at_call 10; go_loud ((with_reducible refine (Append_calls W w1 [] g (DS.new 65536) 0 0 a s (by omega) (by omega) hla (by omega) D0.out.ok H1.out).mono ?_); rintro e w2 ⟨rfl, hs2⟩; rw [D1.out] at hs2; rw [A1.out]; have H2 := Aside0.mk hs2; clear hs2)) | (go_at_call 27; go_loud ((with_reducible refine (Rename_calls W w2 [] g d1 1 4096 a b (by omega) (by omega) hla hlb A2.out.ok H2.out).mono ?_); rintro e w3 ⟨rfl, hs3⟩; rw [D2.out] at hs3; rw [B1.out]; have H3 := Aside0.mk hs3; clear hs3)))
    go_upto_region 9 with (first | (go_at_call 25; go_loud ((with_reducible refine (Read_calls W w3 [] g d2 b hlb H3.out).mono ?_); rintro e w4 ⟨rfl, hw4⟩; rw [hw4, HRb.out.1, HRb.out.2]; clear hw4 w4)))
    go_upto_region 10 with (first | (go_at_call 25; go_loud ((with_reducible refine (Read_calls W w3 [] g d2 a hla H3.out).mono ?_); rintro e w4 ⟨rfl, hw4⟩; rw [hw4, HBB.out]; clear hw4 w4)))
    go_upto_region 12 with (first | (go_at_call 26; go_loud ((with_reducible refine (Names_calls W w3 [] g d2 HRT.out.1 HRT.out.2 H3.out).mono ?_); rintro e w5 ⟨v, rfl, hv, hb5⟩; obtain ⟨A5, c5, rfl⟩ := Kd.R_slice hv; rw [HN.out]; have H5 := Aside0.mk (H3.out.step hb5); clear hv hb5)))
    go_upto_region 14 with (first | (go_at_call 27; go_loud ((with_reducible refine (Rename_calls W w5 [] g d2 2 4096 b a (by omega) (by omega) hlb hla B2.out.ok H5.out).mono ?_); rintro e w6 ⟨rfl, hs6⟩; rw [D3.out] at hs6; rw [C1.out]; have H6 := Aside0.mk hs6; clear hs6)))
    go_upto_region 15 with (first | (go_at_call 25; go_loud ((with_reducible refine (Read_calls W w6 [] g d3 a hla H6.out).mono ?_); rintro e w7 ⟨rfl, hw7⟩; rw [hw7, HRa.out.1, HRa.out.2]; clear hw7 w7)))
    go_wp2_with (first | (go_at_call 16; go_loud ((with_reducible refine (Used_calls W w6 [] g d3 H6.out).mono ?_); rintro e w8 ⟨rfl, hw8⟩; rw [hw8, HU.out]; clear hw8 w8)) | (go_at_call 11; go_loud ((with_reducible refine (Pending_calls W w6 [] g d3 H6.out).mono ?_); rintro e w9 ⟨rfl, hw9⟩; rw [hw9, HP.out]; clear hw9 w9)))
    go_ret
    exact ⟨by simp, H6.out.below⟩
  by_cases hab : a.toList = b.toList
  · exact key true (by rw [b3, get_one, if_pos hab]; rfl) (beq_iff_eq.2 hab)
  · exact key false (by rw [b3, get_one, if_neg hab]; rfl) (beq_eq_false_iff_ne.2 hab)
theorem nofit {d : DS} {a s : ByteArray} (hf : fits a = false) : d.append a s = (d, 10) := by unfold DS.append; rw [if_pos hf]
set_option maxHeartbeats 16000000 in
set_option maxRecDepth 100000 in
theorem bad_calls (W : World) (a b s : ByteArray) (ha : a.size ≤ 4096) (hb : b.size ≤ 4096) (hs : s.size ≤ 4096) (hn : ¬ (fits a = true ∧ fits b = true)) :
    Calls Try.prog 7 #[.string a, .string b, .string s] W fun e w' => e = .returned (.bool true) ∧ Below W.heap.size W w' := by
  have hm : maxLen = 9223372036854775807 := rfl
  have k1 : decide ((4096 : Int) < (s.size : Int)) = false := decide_eq_false (by omega)
  have k2 : decide ((4096 : Int) < (a.size : Int)) = false := decide_eq_false (by omega)
  have k3 : decide ((4096 : Int) < (b.size : Int)) = false := decide_eq_false (by omega)
  have hla : a.size ≤ maxLen := by omega
  have hlb : b.size ≤ maxLen := by omega
  have h0 : Live 65536 (DS.new 65536) 0 0 := Live.start (by omega) rfl
  have D0 := Aside0.mk h0
  by_cases hfa : fits a = true
  rotate_left
  · have hf2 : fits a = false := by simpa using hfa
    have HR := Aside0.mk (nofit (d := DS.new 65536) (s := s) hf2)
    have hor : a.size < 1 ∨ (¬ a.size < 1 ∧ 40 < a.size) := by
      unfold fits at hfa
      rw [decide_eq_true_iff] at hfa
      omega
    clear h0 hm hn hfa hf2
    rcases hor with hz | ⟨hz1, hz2⟩
    · have k4 : decide ((a.size : Int) < 1) = true := decide_eq_true (by omega)
      clear hz
      go_enter Try.func7, Try.ntmps7
      go_wp2_with (first | (go_at_call 8; go_loud ((with_reducible refine (New_calls W W [] 65536 (Sat.start W)).mono ?_); rintro e w1 ⟨g, rfl, hs1⟩; have H1 := Aside0.mk hs1; clear hs1)) | (go_at_call 10; go_loud ((with_reducible refine (Append_calls W w1 [] g (DS.new 65536) 0 0 a s (by omega) (by omega) hla (by omega) D0.out.ok H1.out).mono ?_); rintro e w2 ⟨rfl, hs2⟩; rw [HR.out] at hs2 ⊢; have H2 := Aside0.mk hs2; clear hs2)))
      go_ret
      exact ⟨by simp, H2.out.below⟩
    · have k4 : decide ((a.size : Int) < 1) = false := decide_eq_false (by omega)
      have k5 : decide ((40 : Int) < (a.size : Int)) = true := decide_eq_true (by omega)
      clear hz1 hz2
      go_enter Try.func7, Try.ntmps7
      go_wp2_with (first | (go_at_call 8; go_loud ((with_reducible refine (New_calls W W [] 65536 (Sat.start W)).mono ?_); rintro e w1 ⟨g, rfl, hs1⟩; have H1 := Aside0.mk hs1; clear hs1)) | (go_at_call 10; go_loud ((with_reducible refine (Append_calls W w1 [] g (DS.new 65536) 0 0 a s (by omega) (by omega) hla (by omega) D0.out.ok H1.out).mono ?_); rintro e w2 ⟨rfl, hs2⟩; rw [HR.out] at hs2 ⊢; have H2 := Aside0.mk hs2; clear hs2)))
      go_ret
      exact ⟨by simp, H2.out.below⟩
  · have hfb : fits b = false := by
      rcases Bool.eq_false_or_eq_true (fits b) with h | h
      · exact absurd ⟨hfa, h⟩ hn
      · exact h
    have ha1 : 1 ≤ a.size ∧ a.size ≤ 40 := by unfold fits at hfa; rw [decide_eq_true_iff] at hfa; omega
    have k4 : decide ((a.size : Int) < 1) = false := decide_eq_false (by omega)
    have k5 : decide ((40 : Int) < (a.size : Int)) = false := decide_eq_false (by omega)
    obtain ⟨a1, a2, _, _⟩ := first hfa hs
    obtain ⟨d1, hd1⟩ : ∃ d1, ((DS.new 65536).append a s).1 = d1 := ⟨_, rfl⟩
    rw [hd1] at a2
    have D1 := Aside0.mk hd1
    have A1 := Aside0.mk a1
    have A2 := Aside0.mk a2
    have HR := Aside0.mk (nofit (d := d1) (s := s) hfb)
    have hor : b.size < 1 ∨ (¬ b.size < 1 ∧ 40 < b.size) := by
      unfold fits at hfb
      rw [decide_eq_false_iff_not] at hfb
      omega
    clear h0 hm hn hfa hfb ha1 a1 a2 hd1
    rcases hor with hz | ⟨hz1, hz2⟩
    · have k6 : decide ((b.size : Int) < 1) = true := decide_eq_true (by omega)
      clear hz
      go_enter Try.func7, Try.ntmps7
      go_wp2_with (first | (go_at_call 8; go_loud ((with_reducible refine (New_calls W W [] 65536 (Sat.start W)).mono ?_); rintro e w1 ⟨g, rfl, hs1⟩; have H1 := Aside0.mk hs1; clear hs1)) | (go_at_call 10; go_loud (first | ((with_reducible refine (Append_calls W w1 [] g (DS.new 65536) 0 0 a s (by omega) (by omega) hla (by omega) D0.out.ok H1.out).mono ?_); rintro e w2 ⟨rfl, hs2⟩; rw [D1.out] at hs2; rw [A1.out]; have H2 := Aside0.mk hs2; clear hs2) | ((with_reducible refine (Append_calls W w2 [] g d1 1 4096 b s (by omega) (by omega) hlb (by omega) A2.out.ok H2.out).mono ?_); rintro e w3 ⟨rfl, hs3⟩; rw [HR.out] at hs3 ⊢; have H3 := Aside0.mk hs3; clear hs3))))
      go_ret
      exact ⟨by simp, H3.out.below⟩
    · have k6 : decide ((b.size : Int) < 1) = false := decide_eq_false (by omega)
      have k7 : decide ((40 : Int) < (b.size : Int)) = true := decide_eq_true (by omega)
      clear hz1 hz2
      go_enter Try.func7, Try.ntmps7
      go_wp2_with (first | (go_at_call 8; go_loud ((with_reducible refine (New_calls W W [] 65536 (Sat.start W)).mono ?_); rintro e w1 ⟨g, rfl, hs1⟩; have H1 := Aside0.mk hs1; clear hs1)) | (go_at_call 10; go_loud (first | ((with_reducible refine (Append_calls W w1 [] g (DS.new 65536) 0 0 a s (by omega) (by omega) hla (by omega) D0.out.ok H1.out).mono ?_); rintro e w2 ⟨rfl, hs2⟩; rw [D1.out] at hs2; rw [A1.out]; have H2 := Aside0.mk hs2; clear hs2) | ((with_reducible refine (Append_calls W w2 [] g d1 1 4096 b s (by omega) (by omega) hlb (by omega) A2.out.ok H2.out).mono ?_); rintro e w3 ⟨rfl, hs3⟩; rw [HR.out] at hs3 ⊢; have H3 := Aside0.mk hs3; clear hs3))))
      go_ret
      exact ⟨by simp, H3.out.below⟩
set_option maxHeartbeats 16000000 in
set_option maxRecDepth 100000 in
theorem DiskMoves_calls (W : World) (a : ByteArray) (ya : a.size ≤ maxLen) (wa : a.size ≤ 140737488351232) (b : ByteArray) (yb : b.size ≤ maxLen) (wb : b.size ≤ 140737488351232) (s : ByteArray) (ys : s.size ≤ maxLen) (ws : s.size ≤ 140737488351232) :
    Calls Try.prog 7 #[.string a, .string b, .string s] W fun e w' => e = .returned (.bool true) ∧ Below W.heap.size W w' := by
  by_cases hs : s.size ≤ 4096
  rotate_left
  · have k1 : decide ((4096 : Int) < (s.size : Int)) = true := decide_eq_true (by omega)
    go_enter Try.func7, Try.ntmps7
    go_wp2
    go_ret
    exact ⟨rfl, Below.refl _ _⟩
  have k1 : decide ((4096 : Int) < (s.size : Int)) = false := decide_eq_false (by omega)
  by_cases ha : a.size ≤ 4096
  rotate_left
  · have k2 : decide ((4096 : Int) < (a.size : Int)) = true := decide_eq_true (by omega)
    go_enter Try.func7, Try.ntmps7
    go_wp2
    go_ret
    exact ⟨rfl, Below.refl _ _⟩
  have k2 : decide ((4096 : Int) < (a.size : Int)) = false := decide_eq_false (by omega)
  by_cases hb : b.size ≤ 4096
  rotate_left
  · have k3 : decide ((4096 : Int) < (b.size : Int)) = true := decide_eq_true (by omega)
    go_enter Try.func7, Try.ntmps7
    go_wp2
    go_ret
    exact ⟨rfl, Below.refl _ _⟩
  by_cases hf : fits a = true ∧ fits b = true
  · exact main_calls W a b s hf.1 hf.2 hs
  · exact bad_calls W a b s ha hb hs hf
end Go.Proofs.Ytlngljhinboglaa.LwDiskMoves
