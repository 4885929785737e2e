/- What the call of index.List comes to. -/
import Derived.Test.YtohmbmjneainbaaIeW
import Derived.Test.YtohmbmjneainbaaIxP
namespace Go.Proofs.Ytohmbmjneainbaa.IrW
open Go.RowKit Go.Proofs.YtohmbmjneainbaaW.PrintWords Go.Proofs.YtohmbmjneainbaaW.PrintLast Go.Proofs.YtohmbmjneainbaaW.PrintMore Go.Proofs.Ytohmbmjneainbaa.QB Go.Proofs.Ytohmbmjneainbaa.Sl Go.Proofs.Ytohmbmjneainbaa.Uv Go.Proofs.Ytohmbmjneainbaa.UvP Go.Proofs.Ytohmbmjneainbaa.IxP
set_option linter.unusedVariables false
set_option linter.unusedSimpArgs false

/-- All entries that stand there, one behind the other. -/
def rdAll : Nat → List Int → Option (List S42)
  | 0, _ => none
  | n + 1, b => if b = [] then some [] else (rdEntry b).bind fun p => (rdAll n p.2).map fun l => p.1 :: l
theorem rdNum_less {b : List Int} {v : Nat} {t : List Int} (hb : Bytes b) (h : rdNum b = some (v, t)) : t.length < b.length := by
  obtain ⟨v', n, hv, hn, hl⟩ := ruv_parts hb
  unfold rdNum at h
  rw [hv] at h
  simp only at h
  split at h
  · cases h
  · rename_i hz
    simp only [Option.some.injEq, Prod.mk.injEq, Int.toNat_natCast] at h
    obtain ⟨_, rfl⟩ := h
    rw [List.length_drop]
    omega
theorem rdEntry_less {b : List Int} {x : S42} {t : List Int} (hb : Bytes b) (h : rdEntry b = some (x, t)) : Bytes t ∧ t.length < b.length := by
  unfold rdEntry at h
  cases h1 : rdName b with
  | none => rw [h1] at h; cases h
  | some p1 =>
  obtain ⟨s, t1⟩ := p1
  rw [h1] at h
  simp only [Option.bind_some] at h
  cases h2 : rdNum t1 with
  | none => rw [h2] at h; cases h
  | some p2 =>
  obtain ⟨n1, t2⟩ := p2
  rw [h2] at h
  simp only [Option.bind_some] at h
  cases h3 : rdNum t2 with
  | none => rw [h3] at h; cases h
  | some p3 =>
  obtain ⟨n2, t3⟩ := p3
  rw [h3] at h
  simp only [Option.bind_some] at h
  split at h
  · cases h
  · simp only [Option.some.injEq, Prod.mk.injEq] at h
    obtain ⟨_, rfl⟩ := h
    obtain ⟨b1, l1⟩ := rdName_bytes hb h1
    have l2 := rdNum_less b1 h2
    obtain ⟨b2, _, _⟩ := rdNum_bytes b1 h2
    obtain ⟨b3, l3, _⟩ := rdNum_bytes b2 h3
    exact ⟨Bytes.drop b3 4, by rw [List.length_drop]; omega⟩
theorem rdAll_more : ∀ (n m : Nat) (b : List Int), Bytes b → b.length < n → b.length < m → rdAll n b = rdAll m b := by
  intro n
  induction n with
  | zero => intro m b _ h; omega
  | succ n ih =>
    intro m b hb h1 h2
    obtain ⟨m, rfl⟩ : ∃ j, m = j + 1 := ⟨m - 1, by omega⟩
    simp only [rdAll]
    by_cases hz : b = []
    · rw [if_pos hz, if_pos hz]
    · rw [if_neg hz, if_neg hz]
      cases he : rdEntry b with
      | none => rfl
      | some p =>
        obtain ⟨x, t⟩ := p
        obtain ⟨h3, h4⟩ := rdEntry_less hb he
        simp only [Option.bind_some]
        rw [ih m t h3 (by omega) (by omega)]
/-- What List tells. -/
def listed (b : List Int) : Option (List S42) := (rdAll (b.length + 1) b).bind fun l => if chk [] l = 0 then some l else none

def errOf (o : Option (List S42)) : Int := match o with | some _ => 0 | none => 50
set_option maxHeartbeats 4000000 in
set_option maxRecDepth 100000 in
theorem List_calls (w : World) (A : Option Addr) (c : Nat) (b : List Int) (hC : Kd.C (Kd.int .u8) w A b.length b) (hc : b.length ≤ c) (hby : Bytes b) (hb : b.length ≤ 1000000) :
    Calls Try.prog 15 #[.slice A b.length c] w fun e w' => ∃ v, e = .returned (.tuple #[v, .int .i64 (errOf (listed b))]) ∧ Sat w w' (Row k42 42 v ((listed b).getD []) :: []) := by
  have HY := Aside0.mk hby
  have HC := Aside0.mk hC
  have HS := Aside0.mk (Sat.start w)
  clear hby hC
  have e0 : rdAll (b.length + 1) b = (rdAll (b.length + 1) b).map (([] : List S42) ++ ·) := by cases rdAll (b.length + 1) b <;> rfl
  have HE0 := Aside0.mk e0
  have HR0 := Aside0.mk ((Ir.mk rfl hc HC.out (HS.out.newBlk #[.slice A b.length c, .bool false] 55)))
  have HR1 := Aside0.mk ((HR0.out.nilRow k42 42).nth 1 rfl)
  clear e0 HR0
  go_enter Try.func15, Try.ntmps15
  go_wp2
  go_loopg [4, 5] b.length (fun kq v4 v5 wr => ∃ (l : List S42) (t : List Int) (g : Nat), v5 = .pointer (some ⟨g, 0, none⟩) ∧ Aside0 (l.length + t.length ≤ b.length ∧ t.length = kq) ∧ Aside0 (Bytes t) ∧ Aside0 (rdAll (b.length + 1) b = (rdAll (t.length + 1) t).map (l ++ ·)) ∧ Aside0 (Sat w wr (Ir w g t false :: Row k42 42 v4 l :: [])))
  case atStart => exact ⟨[], b, w.heap.size, rfl, ⟨by simp, rfl⟩, HY, HE0, HR1⟩
  case round =>
    obtain ⟨l, t, g, rfl, HN, HT, HE, HL⟩ := hrel
    clear HR1 HE0 HS
    have hlb : l.length ≤ 1000000 := by have := HN.out; omega
    have htb : t.length ≤ 1099511627776 := by have := HN.out; omega
    obtain ⟨At, ct, hct, hCt, h1⟩ := Ir.open HL.out
    have x0 := h1.cell 0 (v := .slice At t.length ct) rfl
    clear h1 hCt
    by_cases hz : t = []
    · have d1 : decide ((0 : Int) < (t.length : Int)) = false := by rw [hz]; rfl
      have d2 : decide (0 < t.length) = false := by rw [hz]; rfl
      have hall : rdAll (b.length + 1) b = some l := by rw [HE.out, hz]; simp [rdAll]
      obtain ⟨A4, c4, rfl, hc4, hC4⟩ := (HL.out.nth 1 rfl).rowSlice
      have hck := index_Check_f (l := l) (k := 4000000) (by omega) (by omega)
      have HCK := Aside0.mk hck
      have HC4 := Aside0.mk hC4
      have HLI := Aside0.mk (show listed b = if chk [] l = 0 then some l else none by unfold listed; rw [hall]; rfl)
      clear hck hC4 hall hz
      by_cases h0 : chk [] l = 0
      · have d3 : (chk [] l == 0) = true := by rw [beq_iff_eq]; exact h0
        have d4 : (chk [] l != 0) = false := by rw [bne_eq_false_iff_eq]; exact h0
        go_wp2_with (first | (go_at_call 13; go_loud ((with_reducible refine (index_Check.calls 4000000 A4 c4 l (chk [] l) _ HC4.out hc4 HCK.out).mono ?_); rintro e w2 ⟨rfl, hb2⟩; have HS2 := Aside0.mk (((HL.out.nth 1 rfl).step hb2)); clear hb2)))
        go_ret2
        rw [HLI.out, if_pos h0]
        exact ⟨_, rfl, (HS2.out.nth 1 rfl).tail⟩
      · have d3 : (chk [] l == 0) = false := by rw [beq_eq_false_iff_ne]; exact h0
        have d4 : (chk [] l != 0) = true := by rw [bne_iff_ne]; exact h0
        go_wp2_with (first | (go_at_call 13; go_loud ((with_reducible refine (index_Check.calls 4000000 A4 c4 l (chk [] l) _ HC4.out hc4 HCK.out).mono ?_); rintro e w2 ⟨rfl, hb2⟩; have HS2 := Aside0.mk (((HL.out.nth 1 rfl).step hb2)); clear hb2)))
        go_ret2
        rw [HLI.out, if_neg h0]
        exact ⟨.slice none 0 0, rfl, Sat.nilRow _ _ (HS2.out.tail.tail)⟩
    · have hpos : 0 < t.length := List.length_pos_iff.2 hz
      have d1 : decide ((0 : Int) < (t.length : Int)) = true := by simp; omega
      have d2 : decide (0 < t.length) = true := by simp; omega
      by_cases he : rdEntry t = none
      · have HLI := Aside0.mk (show listed b = none by unfold listed; rw [HE.out]; simp only [rdAll]; rw [if_neg hz, he]; rfl)
        have HRE := Aside0.mk he
        clear he hz hpos
        go_wp2_with (first | (go_at_call 26; go_loud ((with_reducible refine (entry_none w wr _ g t HT.out htb HRE.out HL.out).mono ?_); rintro e w1 ⟨x0, x1, x2, x3, u, rfl, _, _, hs⟩; obtain ⟨A5, c5, hc5, hC5, h5⟩ := Ir.open hs; have h6 := h5.newBlk #[.string x0, .int .i64 x1, .int .i64 x2, .int .u32 x3] 42; have xb := (h6.nth 1 rfl).cell 1 (v := .bool true) rfl; have HH := Aside0.mk h6; clear hs h5 h6 hC5)))
        go_ret2
        rw [HLI.out]
        exact ⟨.slice none 0 0, rfl, Sat.nilRow _ _ (HH.out.tail.tail.tail)⟩
      · obtain ⟨⟨x, t'⟩, he'⟩ := Option.ne_none_iff_exists'.1 he
        obtain ⟨hby', hless⟩ := rdEntry_less HT.out he'
        have hne := HE.out
        rw [show rdAll (t.length + 1) t = (rdAll t.length t').map fun l => x :: l by simp only [rdAll]; rw [if_neg hz, he']; rfl, rdAll_more t.length (t'.length + 1) t' hby' hless (by omega), Option.map_map] at hne
        have hne2 : rdAll (b.length + 1) b = (rdAll (t'.length + 1) t').map ((l ++ [x]) ++ ·) := by
          rw [hne]
          congr 1
          funext z
          simp
        have HE2 := Aside0.mk hne2
        have HRE := Aside0.mk he'
        have HT2 := Aside0.mk hby'
        have HLS := Aside0.mk hless
        have hl40 : (l.length + 1) * 40 ≤ 140737488355328 := by omega
        clear he he' hz hpos hby' hless hne hne2
        go_upto_region 7 with (first | (go_at_call 26; go_loud ((with_reducible refine (entry_ok w wr _ g t x t' HT.out htb HRE.out HL.out).mono ?_); rintro e w1 ⟨rfl, hs⟩; obtain ⟨A5, c5, hc5, hC5, h5⟩ := Ir.open hs; have h6 := h5.newBlk #[.string x.f0, .int .i64 x.f1, .int .i64 x.f2, .int .u32 x.f3] 42; have xb := (h6.nth 1 rfl).cell 1 (v := .bool false) rfl; have p0 := h6.cell 0 (v := .string x.f0) rfl; have p1 := h6.cell 1 (v := .int .i64 x.f1) rfl; have p2 := h6.cell 2 (v := .int .i64 x.f2) rfl; have p3 := h6.cell 3 (v := .int .u32 x.f3) rfl; have HH := Aside0.mk (h6.nth 2 rfl); have HC5 := Aside0.mk hC5; clear hs h5 h6 hC5)))
        clear xb
        generalize w1.alloc (.cells #[.string x.f0, .int .i64 x.f1, .int .i64 x.f2, .int .u32 x.f3] 42) = wn at HH p0 p1 p2 p3 ⊢
        generalize w1.heap.size = gx at HH p0 p1 p2 p3 ⊢
        go_wp2_with (first | (at_builtin; go_loud (refine Sat.append k42 rfl (.tmp 16) (.tmp 18) 22 42 (.agg #[.string ⟨#[]⟩, .int .i64 0, .int .i64 0, .int .u32 0]) 40 rfl Try.underlying22 info42 rfl (by decide) (by decide) _ l x _ rfl rfl (k42_mkM _ _ _ x) HH.out hl40 ?_; intro v2 w2 hs2 _; have z0 := (hs2.nth 2 rfl).cell 0 (v := .slice A5 t'.length c5) rfl; have z1 := (hs2.nth 2 rfl).cell 1 (v := .bool false) rfl; have HA := Aside0.mk hs2; clear hs2)))
        go_roundg t'.length
        case measure => have := HLS.out; have := HN.out.2; omega
        case rel =>
          have h7 := ((HA.out.nth 1 rfl).tail.nth 1 rfl).tail
          have h8 := Ir.mk rfl hc5 HC5.out (h7.newBlk #[.slice A5 t'.length c5, .bool false] 55)
          exact ⟨l ++ [x], t', _, rfl, ⟨by have h := HN.out.1; have h' := HLS.out; simp only [List.length_append, List.length_cons, List.length_nil]; omega, rfl⟩, HT2, HE2, ⟨h8⟩⟩
end Go.Proofs.Ytohmbmjneainbaa.IrW
