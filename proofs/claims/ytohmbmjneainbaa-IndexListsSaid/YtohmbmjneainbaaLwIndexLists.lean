/- The walk of the law IndexLists: any bytes are the document's entries, or none; they stay. -/
import Derived.Test.YtohmbmjneainbaaIxO
import Derived.Test.YtohmbmjneainbaaSl2
import Derived.Test.YtohmbmjneainbaaQBx13
namespace Go.Proofs.Ytohmbmjneainbaa.LwIndexLists
open Go.RowKit Go.Proofs.YtohmbmjneainbaaW.PrintWords Go.Proofs.YtohmbmjneainbaaW.PrintLast Go.Proofs.YtohmbmjneainbaaW.PrintMore Go.Proofs.Ytohmbmjneainbaa.QB Go.Proofs.Ytohmbmjneainbaa.Uv Go.Proofs.Ytohmbmjneainbaa.UvP Go.Proofs.Ytohmbmjneainbaa.Sl Go.Proofs.Ytohmbmjneainbaa.RuW Go.Proofs.Ytohmbmjneainbaa.IxP Go.Proofs.Ytohmbmjneainbaa.IrW Go.Proofs.Ytohmbmjneainbaa.IxL
set_option linter.unusedVariables false
set_option linter.unusedSimpArgs false

theorem rdAll_len : ∀ (n : Nat) (b : List Int) (l : List S42), Bytes b → rdAll n b = some l → l.length ≤ b.length := by
  intro n
  induction n with
  | zero => intro b l _ h; cases h
  | succ n ih =>
    intro b l hb h
    simp only [rdAll] at h
    by_cases hz : b = []
    · rw [if_pos hz] at h
      injection h with h
      subst h
      exact Nat.zero_le _
    · rw [if_neg hz] at h
      cases he : rdEntry b with
      | none => rw [he] at h; cases h
      | some p =>
        obtain ⟨x, t⟩ := p
        rw [he] at h
        simp only [Option.bind_some, Option.map_eq_some_iff] at h
        obtain ⟨m, hm, rfl⟩ := h
        obtain ⟨h3, h4⟩ := rdEntry_less hb he
        have := ih t m h3 hm
        simp only [List.length_cons]
        omega
theorem listed_len {b : List Int} (hb : Bytes b) : ((listed b).getD []).length ≤ b.length := by
  unfold listed
  cases h : rdAll (b.length + 1) b with
  | none => exact Nat.zero_le _
  | some l =>
    have := rdAll_len _ b l hb h
    simp only [Option.bind_some]
    split
    · exact this
    · exact Nat.zero_le _
set_option maxHeartbeats 16000000 in
set_option maxRecDepth 100000 in
theorem IndexLists_calls (W : World) (a0 : Option Addr) (cap0 : Nat) (l0 : List Int) (hc0 : l0.length ≤ cap0) (hr0 : Kd.C (Kd.int .u8) W a0 l0.length l0) (hw0 : ∀ x ∈ l0, (Lit.int .u8 x).wf = true) (hs0 : l0.length * 1 ≤ 140737488351232) :
    Calls Try.prog 5 #[.slice a0 l0.length cap0] W fun e w' => e = .returned (.bool true) ∧ Below W.heap.size W w' := by
  by_cases hbig : l0.length > 65536
  · have h1 : decide ((65536 : Int) < (l0.length : Int)) = true := by simp; omega
    have h2 : decide (65536 < l0.length) = true := by simp; omega
    clear hr0 hw0
    go_enter Try.func5, Try.ntmps5
    go_wp2
    go_ret
    exact ⟨rfl, Below.refl _ _⟩
  have h1 : decide ((65536 : Int) < (l0.length : Int)) = false := by simp; omega
  have h2 : decide (65536 < l0.length) = false := by simp; omega
  have hn : l0.length ≤ 65536 := by omega
  clear hbig
  have hby : Bytes l0 := fun x hx => by
    have h := hw0 x hx
    simp [Lit.wf, IntKind.min, IntKind.max, IntKind.signed, IntKind.bits] at h
    omega
  have hll := listed_len hby
  have u1 := List_f (k := 1000000) hby (by omega) (by omega)
  obtain ⟨o, ho⟩ : ∃ o, (listed l0).getD [] = o := ⟨_, rfl⟩
  obtain ⟨er, her⟩ : ∃ er, errOf (listed l0) = er := ⟨_, rfl⟩
  rw [ho] at hll u1
  rw [her] at u1
  have u2 : thermographlaw08_same.f 100000 o (o.map toR) = some true := same_f (by omega) (by omega)
  obtain ⟨or, hor⟩ : ∃ r, o.map toR = r := ⟨_, rfl⟩
  rw [hor] at u1 u2
  have U1 := Aside0.mk u1
  have U2 := Aside0.mk u2
  have HO := Aside0.mk ho
  have HER := Aside0.mk her
  have HY := Aside0.mk hby
  have HR0 := Aside0.mk hr0
  have HS0 := Aside0.mk (Sat.start W)
  clear hw0 hr0 hby u1 u2 ho her hor hll
  have hal : (([] : List Int).length + l0.length) * 1 ≤ 140737488355328 := by simp; omega
  have hl1m : l0.length ≤ 1000000 := by omega
  go_enter Try.func5, Try.ntmps5
  go_upto_region 5 with (first | (at_builtin; go_loud (refine Sat.appendInts rfl (.tmp 12) (.tmp 13) 24 5 .u8 1 rfl Try.underlying24 UvPinfo (by decide) _ [] l0 a0 l0.length cap0 rfl rfl (HS0.out.emptyRow (Kd.int .u8) 5) (Kd.C_alloc HR0.out _) hal ?_; intro v1 w1 hs1 _; rw [List.nil_append] at hs1; have HX := Aside0.mk hs1; clear hs1)))
  obtain ⟨A1, c1, rfl, hc1, hC1⟩ := HX.out.rowSlice
  have HC1 := Aside0.mk hC1
  clear hC1
  go_upto_region 7 with (first | (go_at_call 15; go_loud ((with_reducible refine (List_calls w1 A1 c1 l0 HC1.out hc1 HY.out hl1m).mono ?_); rintro e w2 ⟨v2, rfl, hs2⟩; rw [HO.out, HER.out] at *; obtain ⟨G2, hg2, _⟩ := hs2.row; have HX2 := Aside0.mk (HX.out.made hs2.below (Kd.R_mono hg2 (fun _ _ => trivial))); clear hs2 hg2)) | (go_at_call 16; go_loud ((with_reducible refine (thermographref08_List.calls 1000000 (fun _ => True) a0 cap0 l0 or er _ (Kd.V_mk hc0 (C_intF (Kd.C_below HR0.out HX2.out.below))) U1.out).mono ?_); rintro e w3 ⟨v3, rfl, hr3, hb3⟩; have HX3 := Aside0.mk (HX2.out.made hb3 (Kd.R_mono hr3 (fun _ _ => trivial))); clear hb3 hr3)))
  obtain ⟨A2, c2, rfl, hc2, hC2⟩ := (HX3.out.nth 1 rfl).rowSlice
  obtain ⟨A3, c3, rfl, hc3, hC3⟩ := HX3.out.rowSlice
  clear hC2 hC3
  have n2 : (er == er) = true := beq_self_eq_true er
  go_wp2_with (first | (go_at_call 14; go_loud ((with_reducible refine (thermographlaw08_same.calls 100000 A2 c2 o A3 c3 or true _ (HX3.out.nth 1 rfl).rowC hc2 HX3.out.rowC hc3 U2.out).mono ?_); rintro e w7 ⟨rfl, ⟨⟨m, hm⟩⟩⟩; have HS := Aside0.mk (HX3.out.drewN m); rw [← hm] at HS; clear hm; have s1 := HS.out.tail.tail.toString (P := Try.prog) (src := 24) (dst := 9) Try.underlying24 Try.underlying5 Try.underlying9; have s2 := Kd.C_string (P := Try.prog) (src := 24) (dst := 9) (c := cap0) Try.underlying24 Try.underlying5 Try.underlying9 (Kd.C_below HR0.out HS.out.below))))
  go_ret
  exact ⟨rfl, HS.out.below⟩
end Go.Proofs.Ytohmbmjneainbaa.LwIndexLists
