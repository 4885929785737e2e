/- What the document's own printed functions of layer 3 on numbers come to: Uvarint, ReadUvarint, in the words of Uv.
   Plain lemmas on the document's reading of a number: what stops it, and where.
   What the call of the document's ReadUvarint comes to. -/
import Derived.Test.YtmnlbedgkjnodaaDoorZTszOne2
import Derived.Test.YtmnlbedgkjnodaaDoorZTszOne3
import Derived.Lib.Bytes
import Derived.Test.YtmnlbedgkjnodaaDoorZTszOne5
import Derived.WalkSpells
import Derived.Outline
import Derived.StillTailTactics
set_option linter.unusedSimpArgs false
set_option linter.unusedVariables false
namespace Go.Proofs.YtmnlbedgkjnodaaDoor.UvR
open Go.RowKit Go.Proofs.YtmnlbedgkjnodaaDoorW.PrintWords Go.Proofs.YtmnlbedgkjnodaaDoorW.PrintLast Go.Proofs.YtmnlbedgkjnodaaDoorW.PrintMore Go.Proofs.YtmnlbedgkjnodaaDoor.QB Go.Proofs.YtmnlbedgkjnodaaDoor.Uv Go.Proofs.YtmnlbedgkjnodaaDoor.UvP
theorem ref_Uvarint_l0 (v : Nat) : ∀ (k : Nat) (acc : List Int), v < 18446744073709551616 → (uv v).length ≤ k → acc.length + k < 140737488355328 → thermographref03_Uvarint.l0 k (v : Int) acc = some (acc ++ uv v) := by
  induction v using uv_induct with
  | h0 v h =>
    intro k acc _ hk ha
    rw [uv_small h] at hk ⊢
    obtain ⟨k, rfl⟩ : ∃ m, k = m + 1 := ⟨k - 1, by simp at hk; omega⟩
    simp only [thermographref03_Uvarint.l0]
    rw [if_neg (by omega), if_pos (by omega), show (v : Int) % 256 = v from by omega]
  | h1 v h ih =>
    intro k acc hv hk ha
    rw [uv_big h] at hk ⊢
    simp only [List.length_cons] at hk
    obtain ⟨k, rfl⟩ : ∃ m, k = m + 1 := ⟨k - 1, by omega⟩
    simp only [thermographref03_Uvarint.l0]
    have e1 : IntKind.u64.wrap (Int.tdiv (v : Int) 128) = ((v / 128 : Nat) : Int) := by
      rw [Int.tdiv_eq_ediv_of_nonneg (by omega), IntKind.wrap_u64]; omega
    have e2 : IntKind.u64.wrap (Int.tmod (v : Int) 128 + 128) % 256 = ((v % 128 + 128 : Nat) : Int) := by
      rw [Int.tmod_eq_emod_of_nonneg (by omega), IntKind.wrap_u64]; omega
    rw [if_pos (by omega), if_pos (by omega), e1, e2, ih k _ (by omega) (by omega) (by simp; omega)]
    simp
theorem ref_Uvarint_f {v k : Nat} {l : List Int} (hv : v < 18446744073709551616) (hk : 10 ≤ k) (hk2 : k ≤ 1000000) (hl : l.length ≤ 140737480000000) : thermographref03_Uvarint.f k l (v : Int) = some (l ++ uv v) := by
  unfold thermographref03_Uvarint.f
  simp only [Option.bind_some, List.nil_append, List.length_nil]
  rw [if_pos (by omega)]
  exact ref_Uvarint_l0 v k l hv (Nat.le_trans (uv_length10 hv) hk) (by omega)
end Go.Proofs.YtmnlbedgkjnodaaDoor.UvR
namespace Go.Proofs.YtmnlbedgkjnodaaDoor.UvN
open Go.RowKit Go.Proofs.YtmnlbedgkjnodaaDoorW.PrintWords Go.Proofs.YtmnlbedgkjnodaaDoorW.PrintLast Go.Proofs.YtmnlbedgkjnodaaDoorW.PrintMore Go.Proofs.YtmnlbedgkjnodaaDoor.QB Go.Proofs.YtmnlbedgkjnodaaDoor.Uv Go.Proofs.YtmnlbedgkjnodaaDoor.UvP Go.Proofs.YtmnlbedgkjnodaaDoor.UvR
theorem run_last : ∀ l : List Int, Run l → l.getD (l.length - 1) 0 < 128
  | [], h => h.elim
  | [c], h => by simpa [Run] using h.2
  | c :: d :: t, h => by
    have := run_last (d :: t) h.2
    simpa [List.getD_eq_getElem?_getD] using this
theorem run_high : ∀ l : List Int, Run l → ∀ j, j + 1 < l.length → 128 ≤ l.getD j 0
  | [], h, _, _ => h.elim
  | [c], h, j, hj => by simp at hj
  | c :: d :: t, h, 0, _ => by simpa using h.1.1
  | c :: d :: t, h, j + 1, hj => by
    have := run_high (d :: t) h.2 j (by simpa using hj)
    simpa [List.getD_eq_getElem?_getD] using this
theorem val_snoc (l : List Int) (c : Int) : val (l ++ [c]) = val l + c.toNat % 128 * 2 ^ (7 * l.length) := by
  induction l with
  | nil => simp [val]
  | cons a l ih =>
    rw [List.cons_append]
    simp only [val]
    rw [ih, List.length_cons, pow7]
    have : c.toNat % 128 * (128 * 2 ^ (7 * l.length)) = 128 * (c.toNat % 128 * 2 ^ (7 * l.length)) := by rw [← Nat.mul_assoc, Nat.mul_comm _ 128, Nat.mul_assoc]
    rw [this]
    omega
theorem val_lt (l : List Int) : val l < 2 ^ (7 * l.length) := by
  induction l with
  | nil => simp [val]
  | cons a l ih =>
    simp only [val, List.length_cons]
    rw [pow7]
    omega
theorem getD_left {a t : List Int} {j : Nat} (h : j < a.length) : (a ++ t).getD j 0 = a.getD j 0 := by
  rw [List.getD_eq_getElem?_getD, List.getElem?_append_left h, ← List.getD_eq_getElem?_getD]
theorem ruv_end {b : List Int} (hb : Bytes b) {i : Nat} (hH : ∀ j, j < i → 128 ≤ b.getD j 0) (hi : i = 10 ∨ b.length ≤ i) : ruv b = (0, 0) := by
  rcases ruv_cases hb with h | ⟨v, t, e, hv, _⟩
  · exact h.1
  · exfalso
    have h1 := run_last _ (run_uv v)
    have h2 := uv_length10 hv
    have h3 := uv_pos v
    have h4 : (uv v).length ≤ b.length := by rw [e, List.length_append]; omega
    have h5 := hH ((uv v).length - 1) (by omega)
    rw [e, getD_left (by omega)] at h5
    omega
theorem ruv_stop {b : List Int} (hb : Bytes b) {i : Nat} (hlt : i < b.length) (hH : ∀ j, j < i → 128 ≤ b.getD j 0) (hlow : b.getD i 0 < 128) :
    ruv b = if uv (val (b.take (i + 1)) % 18446744073709551616) = b.take (i + 1) then (((val (b.take (i + 1)) % 18446744073709551616 : Nat) : Int), ((i + 1 : Nat) : Int)) else (0, 0) := by
  split
  · rename_i h
    have hl := Nat.mod_lt (val (b.take (i + 1))) (show 0 < 18446744073709551616 by omega)
    generalize val (b.take (i + 1)) % 18446744073709551616 = z at h hl
    have e : b = uv z ++ b.drop (i + 1) := by rw [h, List.take_append_drop]
    have hlen : (uv z).length = i + 1 := by rw [h, List.length_take]; omega
    have := ruv_uv hl (b.drop (i + 1))
    rw [← e, hlen] at this
    exact this
  · rename_i h
    rcases ruv_cases hb with h1 | ⟨v, t, e, hv, _⟩
    · exact h1.1
    · exfalso
      have h1 := run_last _ (run_uv v)
      have h3 := uv_pos v
      have hle : i + 1 = (uv v).length := by
        rcases Nat.lt_trichotomy (i + 1) (uv v).length with h4 | h4 | h4
        · have h5 := run_high _ (run_uv v) i h4
          rw [e, getD_left (by omega)] at hlow
          omega
        · exact h4
        · have h5 := hH ((uv v).length - 1) (by omega)
          rw [e, getD_left (by omega)] at h5
          omega
      apply h
      rw [e, hle, List.take_left' rfl, val_uv, Nat.mod_eq_of_lt hv]
theorem uv_bytes' (v : Nat) : Bytes (uv v) := uv_bytes v
theorem str_inj {a b : List Int} (ha : Bytes a) (hb : Bytes b) (h : strOfNums a = strOfNums b) : a = b := by
  have h1 := congrArg (fun s : ByteArray => s.data.toList) h
  simp only [strOfNums_data] at h1
  have hm : ∀ l : List Int, Bytes l → (l.map fun n => UInt8.ofNat n.toNat).map (fun u => (u.toNat : Int)) = l := by
    intro l hl
    rw [List.map_map]
    conv => rhs; rw [← List.map_id l]
    refine List.map_congr_left (fun x hx => ?_)
    have := hl x hx
    simp [UInt8.toNat_ofNat']
    omega
  rw [← hm a ha, ← hm b hb, h1]
theorem str_inj' {a b : List Int} (ha : Bytes a) (hb : Bytes b) (h : (strOfNums a).toList = (strOfNums b).toList) : a = b := by
  refine str_inj ha hb ?_
  rw [Go.Lib.strOfNums_toList, Go.Lib.strOfNums_toList] at h
  have h2 : (strOfNums a).data.toList = (strOfNums b).data.toList := h
  have h3 : (strOfNums a).data = (strOfNums b).data := Array.ext' h2
  cases hx : strOfNums a
  cases hy : strOfNums b
  rw [hx, hy] at h3
  simp at h3
  rw [h3]
theorem val_step {b : List Int} {i c : Nat} (hi : i ≤ 9) (hlt : i < b.length) (hc : b[i] = (c : Int)) :
    val (b.take i) + c % 128 * 2 ^ (7 * i) % 18446744073709551616 = val (b.take (i + 1)) % 18446744073709551616 := by
  have hl : (b.take i).length = i := by rw [List.length_take]; omega
  have h1 : val (b.take (i + 1)) = val (b.take i) + c % 128 * 2 ^ (7 * i) := by
    rw [List.take_succ_eq_append_getElem hlt, val_snoc, hc, hl, Int.toNat_natCast]
  have h2 := val_lt (b.take i)
  rw [hl] at h2
  rw [h1]
  rcases Nat.lt_or_ge i 9 with h9 | h9
  · have h3 : (2 : Nat) ^ (7 * i) ≤ 2 ^ (7 * 8) := Nat.pow_le_pow_right (by omega) (by omega)
    have h4 : c % 128 * 2 ^ (7 * i) ≤ 127 * 2 ^ (7 * 8) := Nat.mul_le_mul (by omega) h3
    omega
  · obtain rfl : i = 9 := by omega
    generalize val (b.take 9) = z at h2
    omega
theorem val_small {b : List Int} {i : Nat} (hi : i ≤ 9) : val (b.take i) % 18446744073709551616 = val (b.take i) := by
  have h2 := val_lt (b.take i)
  have h3 : (2 : Nat) ^ (7 * (b.take i).length) ≤ 2 ^ (7 * 9) := Nat.pow_le_pow_right (by omega) (by rw [List.length_take]; omega)
  omega
end Go.Proofs.YtmnlbedgkjnodaaDoor.UvN
namespace Go.Proofs.YtmnlbedgkjnodaaDoor.RuW
open Go.RowKit Go.Proofs.YtmnlbedgkjnodaaDoorW.PrintWords Go.Proofs.YtmnlbedgkjnodaaDoorW.PrintLast Go.Proofs.YtmnlbedgkjnodaaDoorW.PrintMore Go.Proofs.YtmnlbedgkjnodaaDoor.QB Go.Proofs.YtmnlbedgkjnodaaDoor.Uv Go.Proofs.YtmnlbedgkjnodaaDoor.UvP Go.Proofs.YtmnlbedgkjnodaaDoor.UvR Go.Proofs.YtmnlbedgkjnodaaDoor.UvN Go.Proofs.YtmnlbedgkjnodaaDoor.Sl
theorem ref_Uvarint_none {y : Nat} (hy : y < 18446744073709551616) (w : World) :
    Calls Tryd.prog 27 #[.slice none 0 0, .int .u64 y] w fun e w' => ∃ v : Value, e = .returned v ∧ Kd.R (Kd.int .u8) 5 w' w.heap.size (fun _ => True) v (uv y) ∧ Below w.heap.size w w' :=
  thermographref03_Uvarint.calls 20 none 0 ([] : List Int) (y : Int) (uv y) w (Kd.C_nil _ _) (Nat.le_refl _) (ref_Uvarint_f hy (by omega) (by omega) (by simp))
theorem UvPinfo : (Tryd.prog.info? 5).map (fun i => (i.zero, i.size, i.bytes)) = some (some (.int .u8 0), 1, 1) := by kernel_rfl
set_option maxHeartbeats 4000000 in
set_option maxRecDepth 100000 in
theorem ref_Read_calls (w : World) (A : Option Addr) (c : Nat) (b : List Int) (hC : Kd.C (Kd.int .u8) w A b.length b) (hc : b.length ≤ c) (hby : Bytes b) (hl : b.length ≤ 1099511627776) :
    Calls Tryd.prog 39 #[.slice A b.length c] w fun e w' => e = .returned (.tuple #[.int .u64 (ruv b).1, .int .i64 (ruv b).2]) ∧ Below w.heap.size w w' := by
  have HC := Aside0.mk hC
  have HY := Aside0.mk hby
  have HS := Aside0.mk (Sat.start w)
  clear hC hby
  go_enter Tryd.func39, Tryd.ntmps39
  go_wp2
  go_loopw [5, 4] (fun v5 v4 wr => ∃ (i z : Nat), i ≤ 10 ∧ v5 = .int .i64 i ∧ v4 = .int .u64 z ∧ Aside0 (∀ j, j < i → 128 ≤ b.getD j 0) ∧ Aside0 (i ≤ 9 → z = val (b.take i)) ∧ Aside0 (Sat w wr [])) (fun v5 _ _ => 10 - (intOf v5).toNat)
  case atStart => exact ⟨0, 0, by omega, rfl, rfl, ⟨fun j hj => by omega⟩, ⟨fun _ => rfl⟩, HS⟩
  case round =>
    obtain ⟨i, z, hi, rfl, rfl, HH, HZ, HL⟩ := hrel
    clear HS
    by_cases hlt : i < b.length
    · have hlti : decide ((i : Int) < (b.length : Int)) = true := by simp; omega
      have hltn : decide (i < b.length) = true := by simp; omega
      by_cases h10 : i < 10
      · have h10i : decide ((i : Int) < 10) = true := by simp; omega
        have h10n : decide (i < 10) = true := by simp; omega
        have hk0 : (0 : Int) ≤ (i : Int) := by omega
        have hk1 : (i : Int) < (b.length : Int) := by omega
        have hxr := HY.out _ (List.getElem_mem hlt)
        obtain ⟨x, hxe⟩ : ∃ x : Nat, b[i] = (x : Int) := ⟨b[i].toNat, by omega⟩
        have hx256 : x < 256 := by omega
        obtain ⟨ad, hadd, hx⟩ := Kd.at_int (Kd.C_below HC.out HL.out.below) (i : Int) hk0 hk1
        subst hadd
        rw [rd_nat hlt, hxe, Int.toNat_natCast] at hx
        have hz := HZ.out (by omega)
        obtain ⟨y, hy⟩ : ∃ y, val (b.take (i + 1)) % 18446744073709551616 = y := ⟨_, rfl⟩
        have hst := val_step (by omega) hlt hxe
        rw [hy, ← hz] at hst
        have hva : z < 2 ^ (7 * i) := by
          have h := val_lt (b.take i)
          rw [List.length_take, Nat.min_eq_left (by omega)] at h
          rw [hz]
          exact h
        have eor := or_shl0 (acc := z) (x := x % 128) (i := i) (by omega) hva (by omega)
        rw [hst] at eor
        have HE := Aside0.mk hxe
        have HYE := Aside0.mk hy
        obtain ⟨q, hq⟩ : ∃ q, x % 128 = q := ⟨_, rfl⟩
        obtain ⟨s, hs⟩ : ∃ s, 7 * i = s := ⟨_, rfl⟩
        rw [hq, hs] at eor
        have e1 : (x : Int).tmod 128 = (q : Int) := by rw [Int.tmod_eq_emod_of_nonneg (by omega)]; omega
        have e1' : (x : Int) % 128 = (q : Int) := by omega
        have e2 : IntKind.u64.wrap (q : Int) = (q : Int) := by rw [IntKind.wrap_u64]; omega
        have e3 : IntKind.i64.wrap (7 * (i : Int)) = (s : Int) := by rw [IntKind.wrap_i64]; omega
        have e3' : 7 * (i : Int) = (s : Int) := by omega
        have hs0 : (0 : Int) ≤ (s : Int) := by omega
        have hs64 : s ≤ 64 := by omega
        have eor' : Go.bits .or .u64 (z : Int) (IntKind.u64.wrap ((q : Int) * 2 ^ s)) = (y : Int) := by
          rw [← eor]
          unfold shl
          rw [Int.toNat_natCast, show IntKind.bits .u64 = 64 from rfl, Nat.min_eq_left hs64]
        have hyl : y < 18446744073709551616 := by rw [← HYE.out]; exact Nat.mod_lt _ (by omega)
        have hi9 : i ≤ 9 := by omega
        have hi1 : i + 1 ≤ 10 := by omega
        have e4 : IntKind.i64.wrap ((i : Int) + 1) = (i : Int) + 1 := by rw [IntKind.wrap_i64]; omega
        clear hxe hxr hz hy hst hva eor hq hs
        by_cases h128 : x < 128
        · have h128i : decide ((x : Int) < 128) = true := by simp; omega
          have h128n : decide (x < 128) = true := by simp; omega
          have HT := Aside0.mk (ruv_stop HY.out hlt HH.out (by rw [List.getD_eq_getElem?_getD, List.getElem?_eq_getElem hlt, HE.out]; simp; omega))
          rw [HYE.out] at HT
          obtain ⟨T, hT⟩ : ∃ T, b.take (i + 1) = T := ⟨_, rfl⟩
          rw [hT] at HT
          have hTl : T.length = i + 1 := by rw [← hT, List.length_take]; omega
          have hTb : Bytes T := fun x hx => HY.out x (by rw [← hT] at hx; exact List.mem_of_mem_take hx)
          have hCT : (Kd.int .u8).C w (some ad) (i + 1) T := by
            have h := Kd.C_take (m := i + 1) HC.out (by omega)
            rw [hT, hTl] at h
            exact h
          have HCT := Aside0.mk hCT
          have HLd := Aside0.mk HL.out.drew
          have hcv := Kd.C_string (P := Tryd.prog) (src := 23) (dst := 9) (c := c) Tryd.underlying23 Tryd.underlying5 Tryd.underlying9 (Kd.C_below HCT.out HLd.out.below)
          obtain ⟨i0, hi0, _, _, _⟩ := info_parts UvPinfo
          have hcut := cut_to (P := Tryd.prog) 23 5 .i64 Tryd.underlying23 hi0 (some ad) b.length c ((i : Int) + 1) (by omega) (by omega) hc
          rw [show ((i : Int) + 1).toNat = i + 1 from by omega] at hcut
          clear hT hCT hi0
          by_cases heq : uv y = T
          · go_wp2
            go_region_with (first | (go_at_call 27; go_loud ((with_reducible refine (ref_Uvarint_none hyl _).mono ?_); rintro e w5 ⟨v5, rfl, hr5, hb5⟩; have hs5 := HLd.out.made hb5 hr5; rw [heq] at hs5; have h5c := hs5.toString (P := Tryd.prog) (src := 23) (dst := 9) Tryd.underlying23 Tryd.underlying5 Tryd.underlying9; have hcv5 := Kd.C_string (P := Tryd.prog) (src := 23) (dst := 9) (c := c) Tryd.underlying23 Tryd.underlying5 Tryd.underlying9 (Kd.C_below HCT.out hs5.below); have HS5 := Aside0.mk hs5; clear hs5 hr5 hb5)))
            all_goals (go_wp2; go_ret2; rw [HT.out, if_pos heq]; exact ⟨rfl, HS5.out.below⟩)
          · have hne : (strOfNums (uv y)).toList ≠ (strOfNums T).toList := fun h => heq (str_inj' (uv_bytes' y) hTb h)
            have hne1 : ((strOfNums (uv y)).toList == (strOfNums T).toList) = false := beq_eq_false_iff_ne.mpr hne
            have hne2 : ((strOfNums (uv y)).toList != (strOfNums T).toList) = true := bne_iff_ne.mpr hne
            go_wp2
            go_region_with (first | (go_at_call 27; go_loud ((with_reducible refine (ref_Uvarint_none hyl _).mono ?_); rintro e w5 ⟨v5, rfl, hr5, hb5⟩; have hs5 := HLd.out.made hb5 hr5; have h5c := hs5.toString (P := Tryd.prog) (src := 23) (dst := 9) Tryd.underlying23 Tryd.underlying5 Tryd.underlying9; have hcv5 := Kd.C_string (P := Tryd.prog) (src := 23) (dst := 9) (c := c) Tryd.underlying23 Tryd.underlying5 Tryd.underlying9 (Kd.C_below HCT.out hs5.below); have HS5 := Aside0.mk hs5; clear hs5 hr5 hb5)))
            all_goals (go_wp2; go_ret2; rw [HT.out, if_neg heq]; exact ⟨rfl, HS5.out.below⟩)
        · have h128i : decide ((x : Int) < 128) = false := by simp; omega
          have h128n : decide (x < 128) = false := by simp; omega
          go_wp2
          go_roundw
          case measure => simp [intOf]; omega
          case rel =>
            refine ⟨i + 1, y, hi1, by go_num, rfl, ⟨fun j hj => ?_⟩, ⟨fun h9 => ?_⟩, HL⟩
            · rcases Nat.lt_or_ge j i with h | h
              · exact HH.out j h
              · obtain rfl : j = i := by omega
                rw [List.getD_eq_getElem?_getD, List.getElem?_eq_getElem hlt, HE.out]
                simp
                omega
            · rw [← HYE.out, val_small h9]
      · have h10i : decide ((i : Int) < 10) = false := by simp; omega
        have h10n : decide (i < 10) = false := by simp; omega
        have hr := ruv_end HY.out HH.out (.inl (by omega))
        go_wp2
        go_ret2
        rw [hr]
        exact ⟨rfl, HL.out.below⟩
    · have hlti : decide ((i : Int) < (b.length : Int)) = false := by simp; omega
      have hltn : decide (i < b.length) = false := by simp; omega
      have hr := ruv_end HY.out HH.out (.inr (by omega))
      go_wp2
      go_ret2
      rw [hr]
      exact ⟨rfl, HL.out.below⟩
end Go.Proofs.YtmnlbedgkjnodaaDoor.RuW
