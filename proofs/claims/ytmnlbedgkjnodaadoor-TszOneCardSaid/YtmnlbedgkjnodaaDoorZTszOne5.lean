/- More words for a walk's memory (see Sl).
   What the calls of bits.Reader come to: a reader holds bytes of its own, and where it stands among their bits.
   The document's Get on a row that is cut off another (the loops of laws hand it on): the printed proof, turned. -/
import Derived.Test.YtmnlbedgkjnodaaDoorZTszOne2
import Derived.Test.YtmnlbedgkjnodaaDoorZTszOne0
import Derived.Test.YtmnlbedgkjnodaaDoorZTszOne3
import Derived.Test.YtmnlbedgkjnodaaDoorZTszOne1
import Derived.StillTailTactics
import Derived.WalkSpells
import Derived.Outline
import Derived.Laws.Bits64
import Derived.Test.YtmnlbedgkjnodaaDoorZTszOne4
set_option linter.unusedSimpArgs false
set_option linter.unusedVariables false
namespace Go.Proofs.YtmnlbedgkjnodaaDoor.Sl
open Go.RowKit Go.Proofs.YtmnlbedgkjnodaaDoorW.PrintWords Go.Proofs.YtmnlbedgkjnodaaDoorW.PrintLast Go.Proofs.YtmnlbedgkjnodaaDoorW.PrintMore
section
variable {α : Type} {d : Kd α} {e : Nat} {v : Value} {xs : List α} {w0 w w' : World} {L : List Asn} {A : Option Addr} {n c : Nat}
theorem Sat.rowC (h : Sat w0 w (Row d e (.slice A n c) xs :: L)) : d.C w A xs.length xs := by
  obtain ⟨G, h1, _⟩ := h.get
  exact (Kd.R_reads' h1).2.2
theorem Sat.rowLen (h : Sat w0 w (Row d e (.slice A n c) xs :: L)) : n = xs.length ∧ n ≤ c := by
  obtain ⟨G, h1, _⟩ := h.get
  exact ⟨(Kd.R_reads' h1).1, (Kd.R_reads' h1).2.1⟩
end
section
variable {P : Program} {ops : Array Oper} {rest : List Oper} {o : Oper} {a : Act} {Q : Exit → Act → World → Prop}
theorem Sat.appendInts {w0 W : World} {L : List Asn} (hgd : o.guard = none) (s x : Operand) (t e : TypeId) (k : IntKind) (bytes : Nat)
    (ho : o.op = .call { callee := .builtin .append, args := #[s, x], argTypes := #[t, t] })
    (ht : P.underlying t = some (.slice e)) (hinfo : (P.info? e).map (fun i => (i.zero, i.size, i.bytes)) = some (some (.int k 0), 1, bytes)) (hb0 : 0 < bytes)
    (v : Value) (xs ys : List Int) (A : Option Addr) (m c : Nat) (hs : a.eval s = v) (hx : a.eval x = .slice A m c)
    (HS : Sat w0 W (Row (Kd.int k) e v xs :: L)) (HR : Kd.C (Kd.int k) W A m ys) (hl : (xs.length + m) * bytes ≤ 140737488355328)
    (h : ∀ v1 w1, Sat w0 w1 (Row (Kd.int k) e v1 (xs ++ ys) :: L) → W.heap.size ≤ w1.heap.size → wpList P ops Q rest (a.put o.dst v1) w1) :
    wpList P ops Q (o :: rest) a W := by
  obtain ⟨G, h1, h2, h3⟩ := HS.seps
  refine Kd.R_append_rows (Kd.int k) w0.heap.size hgd s x t e (.int k 0) bytes ho ht hinfo rfl (Nat.zero_lt_one) hb0 v xs ys A m c (fun k => G k ∨ W.heap.size ≤ k) (fun _ => False) hs hx
    (Kd.R_mono h1 (fun _ hk => .inl hk)) HR (fun _ _ h => h) (fun _ hk => hk.elim) (fun _ hk => .inr hk) HS.below HS.size hl ?_
  intro v1 w1 hR hB hg _
  exact h v1 w1 (Sat.grew HS.below h2 h3 hR hB hg (fun k hk => h1.1 k hk)) hg.size
end
section
variable {α β : Type} {d : Kd α} {d' : Kd β} {e e' : Nat} {v : Value} {xs : List α} {w0 w : World} {L : List Asn}
theorem Sat.rowQSome (h : Sat w0 w (RowQ d e v xs :: L)) : ∃ A c, v = .slice A xs.length c ∧ xs.length ≤ c := by
  obtain ⟨G, h1, _⟩ := h.get
  exact Kd.Q_slice h1
theorem Sat.viaKeptQ (h : Sat w0 w (RowQ d e v xs :: L)) : ∃ G : Nat → Prop, d.Q e w w0.heap.size G v xs ∧ (∀ k, G k → w0.heap.size ≤ k ∧ k < w.heap.size) ∧
    ∀ (w' : World) (v1 : Value) (ys : List β), d'.Q e' w' w0.heap.size (fun k => G k ∨ w.heap.size ≤ k) v1 ys → Below w0.heap.size w0 w' → Kept w w' G → Sat w0 w' (RowQ d' e' v1 ys :: L) := by
  have h0s := h.size
  obtain ⟨G, h1, h2, h3⟩ := h.seps
  refine ⟨G, h1, h2, fun w' v1 ys hR hb hk => ?_⟩
  refine ⟨hb, fun k => (G k ∨ w.heap.size ≤ k) ∧ k < w'.heap.size, Kd.Q_mono (Kd.Q_bound hR) (fun k hk => ⟨hk.1, hk.2.2.1⟩), fun k hk => ⟨?_, hk.2⟩, (h3.loc (fun k hk' => hk.2 k hk'.1.2 hk'.2)).mono (fun k hk' => ⟨⟨hk'.1.1, Nat.lt_of_lt_of_le hk'.1.2 hk.1⟩, fun hk2 => ?_⟩)⟩
  · rcases hk.1 with h | h
    · exact (h2 k h).1
    · exact Nat.le_trans h0s h
  · rcases hk2.1 with h | h
    · exact hk'.2 h
    · have := hk'.1.2
      omega
end
end Go.Proofs.YtmnlbedgkjnodaaDoor.Sl
namespace Go.Proofs.YtmnlbedgkjnodaaDoor.RdW
open Go.RowKit Go.Proofs.YtmnlbedgkjnodaaDoorW.PrintWords Go.Proofs.YtmnlbedgkjnodaaDoorW.PrintLast Go.Proofs.YtmnlbedgkjnodaaDoorW.PrintMore Go.Proofs.YtmnlbedgkjnodaaDoor.QB Go.Proofs.YtmnlbedgkjnodaaDoor.Sl Go.Proofs.YtmnlbedgkjnodaaDoor.Bt Go.Proofs.YtmnlbedgkjnodaaDoor.WrW
attribute [local go_sem] max2_int min2_int max_two min_two
def Rd (g : Nat) (b : List Int) (p : Nat) : Asn := Ex fun v : Value => All [Blk g #[v, .int .i64 p] 94, Row (Kd.int .u8) 5 v b]
theorem NewReader_calls (w0 w : World) (L : List Asn) (A : Option Addr) (c : Nat) (b : List Int) (hC : Kd.C (Kd.int .u8) w A b.length b) (hc : b.length ≤ c) (hl : b.length < 140737488355328) (h : Sat w0 w L) :
    Calls Tryd.prog 36 #[.slice A b.length c] w fun e w' => ∃ g, e = .returned (.pointer (some ⟨g, 0, none⟩)) ∧ Sat w0 w' (Rd g b 0 :: L) := by
  have HC := Aside0.mk hC
  have HS := Aside0.mk h
  clear h hC
  go_enter Tryd.func36, Tryd.ntmps36
  go_wp2_with (first | (go_at_call 49; (with_reducible refine (slices_Clone_byte_byte.calls A c b b _ HC.out hc (UvP.clone_f hl)).mono ?_); rintro e w1 ⟨v0, rfl, hr, hb⟩; have hs1 := HS.out.made hb hr; obtain ⟨A1, c1, rfl, _, _⟩ := hs1.rowSlice; have HS1 := Aside0.mk hs1; clear hs1 hr hb))
  go_ret
  refine ⟨_, rfl, Sat.any (.slice A1 b.length c1) (Sat.closed ?_)⟩
  exact HS1.out.newBlk #[.slice A1 b.length c1, .int .i64 0] 94
theorem Left_calls (w0 w : World) (L : List Asn) (g : Nat) (b : List Int) (p : Nat) (hb : b.length < 140737488355328) (hp : p ≤ 8 * b.length) (h : Sat w0 w (Rd g b p :: L)) :
    Calls Tryd.prog 61 #[.pointer (some ⟨g, 0, none⟩)] w fun e w' => e = .returned (.int .i64 ((8 * b.length - p : Nat) : Int)) ∧ Drawn0 w w' := by
  obtain ⟨v, h1⟩ := h.some_
  have h2 := h1.opened
  obtain ⟨A, c, rfl, hcap, _⟩ := (h2.nth 1 rfl).rowSlice
  have hc0 := h2.cell 0 (v := .slice A b.length c) rfl
  have hc1 := h2.cell 1 (v := .int .i64 p) rfl
  have e1 : IntKind.i64.wrap (8 * (b.length : Int)) = ((8 * b.length : Nat) : Int) := by rw [IntKind.wrap_i64]; omega
  have e2 : IntKind.i64.wrap (((8 * b.length : Nat) : Int) - (p : Int)) = ((8 * b.length - p : Nat) : Int) := by rw [IntKind.wrap_i64]; omega
  have e3 : IntKind.i64.wrap (8 * (b.length : Int) - (p : Int)) = ((8 * b.length - p : Nat) : Int) := by rw [IntKind.wrap_i64]; omega
  clear h h1 h2 hp
  go_enter Tryd.func61, Tryd.ntmps61
  go_wp2
  go_quiet (fail)
  go_wp2
  go_ret
  exact ⟨by first | rfl | (simp; omega), by first | exact ⟨⟨_, rfl⟩⟩⟩
def getN (b : List Int) (p c : Nat) : Nat := num (((unpk b).drop p).take c)
theorem getN_lt (b : List Int) (p c : Nat) (hc : c ≤ 64) : getN b p c < 2 ^ c := by
  have h := num_lt ((unpk_isBits b).drop p |>.take c)
  refine Nat.lt_of_lt_of_le h (Nat.pow_le_pow_right (by omega) ?_)
  rw [List.length_take]
  omega
theorem getN_succ (b : List Int) (p i : Nat) (h : p + i < 8 * b.length) : getN b p (i + 1) = getN b p i * 2 + (b.getD ((p + i) / 8) 0).toNat / 2 ^ (7 - (p + i) % 8) % 2 := by
  have hl : i < ((unpk b).drop p).length := by rw [List.length_drop, unpk_length]; omega
  unfold getN
  rw [List.take_succ_eq_append_getElem hl, num_snoc]
  congr 1
  have h2 := unpk_get b (p + i) h
  rw [List.getD_eq_getElem?_getD, List.getElem?_eq_getElem (by rw [unpk_length]; exact h)] at h2
  rw [List.getElem_drop]
  simp only [Option.getD_some] at h2
  rw [h2]
  rfl
theorem get_value (V x s : Nat) (hV : V < 9223372036854775808) (hx : x < 256) (hs : s ≤ 7) :
    Go.bits .or .u64 ((V : Int) * 2) (IntKind.u64.wrap (Go.bits .and .u8 ((x : Int) / 2 ^ s) 1)) = ((V * 2 + x / 2 ^ s % 2 : Nat) : Int) := by
  have e1 : Go.bits .and .u8 ((x : Int) / 2 ^ s) 1 = ((x / 2 ^ s % 2 : Nat) : Int) := by
    have h := u8_and_nat (x / 2 ^ s) 1 (Nat.lt_of_le_of_lt (Nat.div_le_self _ _) hx) (by omega)
    rw [nat_mask1, Int.natCast_ediv, Int.natCast_pow] at h
    exact h
  have e2 : (V : Int) * 2 = ((V * 2 : Nat) : Int) := by omega
  have e3 : IntKind.u64.wrap ((x / 2 ^ s % 2 : Nat) : Int) = ((x / 2 ^ s % 2 : Nat) : Int) := by rw [IntKind.wrap_u64]; omega
  rw [e1, e2, e3, u64_or_nat _ _ (by omega) (by omega)]
  congr 1
  exact nat_join 1 _ _ (by omega) (by omega)
set_option maxHeartbeats 2000000 in
set_option maxRecDepth 100000 in
theorem Get_ok (w0 w : World) (L : List Asn) (g : Nat) (b : List Int) (p : Nat) (n : Int) (hb : b.length ≤ 1099511627776) (hby : ∀ x ∈ b, 0 ≤ x ∧ x < 256) (hp : p ≤ 8 * b.length) (hle : cutN n ≤ 8 * b.length - p) (h : Sat w0 w (Rd g b p :: L)) :
    Calls Tryd.prog 59 #[.pointer (some ⟨g, 0, none⟩), .int .i64 n] w fun e w' => e = .returned (.tuple #[.int .u64 ((getN b p (cutN n) : Nat) : Int), .bool true]) ∧ Sat w0 w' (Rd g b (p + cutN n) :: L) := by
  have hc64 : cutN n ≤ 64 := by unfold cutN; omega
  have HS := Aside0.mk h
  have HY := Aside0.mk hby
  clear h hby
  have hd : decide (((8 * b.length - p : Nat) : Int) < ((cutN n : Nat) : Int)) = false := by simp; omega
  have hd' : decide (8 * b.length - p < cutN n) = false := by simp; omega
  have HLE := Aside0.mk hle
  clear hle
  go_enter Tryd.func59, Tryd.ntmps59
  go_wp2_with (first | (go_at_call 44; (with_reducible refine (bits_cut.calls n _ _ (cut_f n)).mono ?_); rintro e w1 ⟨rfl, hb1⟩; have HS1 := Aside0.mk (HS.out.step hb1); clear hb1) | (go_at_call 61; (with_reducible refine (Left_calls w0 w1 L g b p (by omega) hp HS1.out).mono ?_); rintro e w2 ⟨rfl, ⟨⟨m, rfl⟩⟩⟩; have HS2 := Aside0.mk (HS1.out.drewN m)))
  go_loopw [6, 14] (fun v6 v14 wr => ∃ i : Nat, i ≤ cutN n ∧ v6 = .int .u64 (getN b p i : Nat) ∧ v14 = .int .i64 i ∧ Aside0 (Sat w0 wr (Rd g b (p + i) :: L))) (fun _ v14 _ => cutN n - (intOf v14).toNat)
  case atStart => exact ⟨0, Nat.zero_le _, by simp [getN, num], rfl, HS2⟩
  case round =>
    obtain ⟨i, hi, rfl, rfl, HR⟩ := hrel
    clear HS HS1 HS2
    by_cases hlt : i < cutN n
    · have hle := HLE.out
      have hlti : decide ((i : Int) < ((cutN n : Nat) : Int)) = true := by simp; omega
      have hltn : decide (i < cutN n) = true := by simp; omega
      obtain ⟨v, h1⟩ := HR.out.some_
      have h2 := h1.opened
      obtain ⟨gb, cap, rfl, _, _⟩ := (h2.nth 1 rfl).rowBlock (by omega)
      obtain ⟨q, hq⟩ : ∃ q, p + i = q := ⟨_, rfl⟩
      rw [hq] at h2
      have hq8 : q < 8 * b.length := by omega
      have hj : q / 8 < b.length := by omega
      have hc0 := h2.cell 0 (v := .slice (some ⟨gb, 0, none⟩) b.length cap) rfl
      have hc1 := h2.cell 1 (v := .int .i64 q) rfl
      have hf1 := h2.free 1
      obtain ⟨hx, _⟩ := (show Sat w0 _ (Row (Kd.int .u8) 5 (.slice (some ⟨gb, 0, none⟩) b.length cap) b :: _) from h2.nth 1 rfl).rowCell (q / 8) hj
      have hxr := HY.out _ (List.getElem_mem hj)
      obtain ⟨x, hxe, hxl⟩ : ∃ x : Nat, b.getD (q / 8) 0 = (x : Int) ∧ x < 256 := by
        rw [List.getD_eq_getElem?_getD, List.getElem?_eq_getElem hj]
        exact ⟨b[q / 8].toNat, by simp; omega, by omega⟩
      rw [hxe] at hx
      have HG := Aside0.mk (getN_succ b p i (by omega))
      have HX := Aside0.mk hxe
      have HQ := Aside0.mk hq
      have HS := Aside0.mk h2
      have hgl := getN_lt b p i (by omega)
      have hgl2 : getN b p i < 9223372036854775808 := Nat.lt_of_lt_of_le hgl (Nat.le_trans (Nat.pow_le_pow_right (by omega) (show i ≤ 63 by omega)) (by omega))
      clear HR h1 h2 hxr hxe hq hle hgl
      obtain ⟨j, hje⟩ : ∃ j, q / 8 = j := ⟨_, rfl⟩
      obtain ⟨s, hse⟩ : ∃ s, 7 - q % 8 = s := ⟨_, rfl⟩
      obtain ⟨r, hre⟩ : ∃ r, q % 8 = r := ⟨_, rfl⟩
      have e1 : IntKind.i64.wrap ((q : Int).tdiv 8) = (j : Int) := by rw [Int.tdiv_eq_ediv_of_nonneg (by omega), IntKind.wrap_i64]; omega
      have e1' : (q : Int) / 8 = (j : Int) := by omega
      have e1'' : IntKind.i64.wrap ((q : Int) / 8) = (j : Int) := by rw [IntKind.wrap_i64]; omega
      have e2 : (q : Int).tmod 8 = (r : Int) := by rw [Int.tmod_eq_emod_of_nonneg (by omega)]; omega
      have e2' : (q : Int) % 8 = (r : Int) := by omega
      have e3 : IntKind.i64.wrap (7 - (r : Int)) = (s : Int) := by rw [IntKind.wrap_i64]; omega
      have e4 : IntKind.u64.wrap (s : Int) = (s : Int) := by rw [IntKind.wrap_u64]; omega
      have hs7 : s ≤ 7 := by omega
      have hj0 : (0 : Int) ≤ (j : Int) := by omega
      have hj1 : (j : Int) < (b.length : Int) := by omega
      rw [hje] at hx
      have HJ := Aside0.mk hje
      have HSE := Aside0.mk hse
      clear hje hse hre hj
      go_wp2
      go_quiet (fail)
      go_wp2
      go_roundw
      case measure => simp [intOf]; omega
      case rel =>
        have hG := HG.out
        rw [HQ.out, HX.out, HSE.out, Int.toNat_natCast] at hG
        refine ⟨i + 1, by omega, ?_, by go_num, ⟨?_⟩⟩
        · rw [get_value _ x s hgl2 hxl hs7, hG]
        · refine Sat.any (.slice (some ⟨gb, 0, none⟩) b.length cap) (Sat.closed ?_)
          have h3 := (HS.out.drewN nq).setBlk 1 (.int .i64 ((q : Int) + 1))
          have e : ((q : Int) + 1) = ((p + (i + 1) : Nat) : Int) := by have := HQ.out; omega
          rw [e] at h3 ⊢
          exact h3
    · have hlti : decide ((i : Int) < ((cutN n : Nat) : Int)) = false := by simp; omega
      have hltn : decide (i < cutN n) = false := by simp; omega
      have hie : i = cutN n := by omega
      have HI := Aside0.mk hie
      clear hie hi hlt
      go_wp2
      go_ret2
      rw [← HI.out]
      exact ⟨rfl, HR.out⟩
set_option maxHeartbeats 2000000 in
set_option maxRecDepth 100000 in
theorem Get_none (w0 w : World) (L : List Asn) (g : Nat) (b : List Int) (p : Nat) (n : Int) (hb : b.length ≤ 1099511627776) (hp : p ≤ 8 * b.length) (hle : ¬ cutN n ≤ 8 * b.length - p) (h : Sat w0 w (Rd g b p :: L)) :
    Calls Tryd.prog 59 #[.pointer (some ⟨g, 0, none⟩), .int .i64 n] w fun e w' => e = .returned (.tuple #[.int .u64 0, .bool false]) ∧ Sat w0 w' (Rd g b p :: L) := by
  have HS := Aside0.mk h
  clear h
  have hd : decide (((8 * b.length - p : Nat) : Int) < ((cutN n : Nat) : Int)) = true := by simp; omega
  have hd' : decide (8 * b.length - p < cutN n) = true := by simp; omega
  have HLE := Aside0.mk hle
  clear hle
  go_enter Tryd.func59, Tryd.ntmps59
  go_wp2_with (first | (go_at_call 44; (with_reducible refine (bits_cut.calls n _ _ (cut_f n)).mono ?_); rintro e w1 ⟨rfl, hb1⟩; have HS1 := Aside0.mk (HS.out.step hb1); clear hb1) | (go_at_call 61; (with_reducible refine (Left_calls w0 w1 L g b p (by omega) hp HS1.out).mono ?_); rintro e w2 ⟨rfl, ⟨⟨m, rfl⟩⟩⟩; have HS2 := Aside0.mk (HS1.out.drewN m)))
  go_ret2
  exact ⟨rfl, HS2.out⟩
end Go.Proofs.YtmnlbedgkjnodaaDoor.RdW
namespace Go.Proofs.YtmnlbedgkjnodaaDoor.QB
open Go.RowKit Go.Proofs.YtmnlbedgkjnodaaDoorW.PrintWords Go.Proofs.YtmnlbedgkjnodaaDoorW.PrintLast Go.Proofs.YtmnlbedgkjnodaaDoorW.PrintMore
attribute [local go_sem] max2_int min2_int max_two min_two max_three min_three max_four min_four
set_option maxHeartbeats 8000000 in
set_option maxRecDepth 100000 in
theorem thermographref03_Get.callsQ (k : Nat) (P0_ : Nat → Prop) (u9000_ : Value) (l0 : List Int) (a1 : Int) (r1 : Int) (r2 : List Int) (r3 : Bool) (w0 w : World) (hB : Below w0.heap.size w0 w) (ho0 : Kd.Q (Kd.int .u8) 5 w w0.heap.size P0_ u9000_ l0) (h : thermographref03_Get.f k l0 a1 = some (r1, r2, r3)) :
    Calls Tryd.prog 56 #[u9000_, .int .i64 a1] w fun e w' => ∃ v1_ : Value, e = .returned (.tuple #[.int .u64 r1, v1_, .bool r3]) ∧ Kd.Q (Kd.int .u8) 5 w' w0.heap.size (fun k_ => (P0_ k_ ∨ w.heap.size ≤ k_)) v1_ r2 ∧ Below w0.heap.size w0 w' ∧ Kept w w' (fun k_ => P0_ k_) := by
  have HO0 := Aside0.mk (show Kd.Q (Kd.int .u8) 5 w w0.heap.size (fun k_ => (P0_ k_ ∨ w.heap.size ≤ k_)) u9000_ l0 from Kd.Q_mono ho0 (fun k_ hk => (.inl hk)))
  have HK := Aside0.mk (Kept.refl w (fun k_ => P0_ k_))
  have HW0 := Aside0.mk hB.size
  have HB := Aside0.mk hB
  clear hB
  have H : ((thermographref03_cut.f a1).bind fun t411 => (if t411 > (l0.length : Int) then (some (0, l0, false)) else (thermographref03_Get.l0 k l0 t411 0 0))) = some (r1, r2, r3) := h
  clear h
  replace H := Option.bind_eq_some_iff.mp H
  obtain ⟨t411, A30, H⟩ := H
  replace H : (if t411 > (l0.length : Int) then (some (0, l0, false)) else (thermographref03_Get.l0 k l0 t411 0 0)) = some (r1, r2, r3) := H
  have A3 := Aside0.mk A30
  clear A30
  by_cases c4 : t411 > (l0.length : Int)
  · rw [if_pos c4] at H
    have c4b0 : decide ((l0.length : Int) < t411) = true := decide_eq_true c4
    clear c4
    simp only [Option.some.injEq, Prod.mk.injEq] at H
    obtain ⟨rfl, rfl, rfl⟩ := H
    go_enter Tryd.func56, Tryd.ntmps56
    go_wp2_with (first | (go_at_call 50; (with_reducible refine (thermographref03_cut.calls a1 t411 _ A3.out).mono ?_); rintro e w5 ⟨rfl, hb⟩; have n0_ := Aside0.mk (Kd.Q_below (by (with_reducible repeat (first | apply Kd.Q_alloc | apply Kd.Q_drewN | apply Kd.Q_drew)); exact HO0.out) hb); have n1_ := Aside0.mk (Kept.below (S := (fun k_ => P0_ k_)) (by repeat (first | (with_reducible first | exact HK.out | apply Kept.alloc | apply Kept.drewN | apply Kept.drew) | exact HK.out)) hb); have n2_ := Aside0.mk (below_step (by repeat (first | (with_reducible first | exact HB.out | apply below_alloc | apply pw_below_drewN | apply below_drew1) | exact HB.out)) hb); clear HO0; clear HK; clear HB; have HO0 := n0_; have HK := n1_; have HB := n2_; clear n0_ n1_ n2_; (try clear hb); (try clear hb2); (try clear hk); (try clear hi); obtain ⟨Ao6, co6, eo6, _⟩ := Kd.Q_slice HO0.out; subst eo6))
    repeat (go_quiet (first | (go_at_call 50; (with_reducible refine (thermographref03_cut.calls a1 t411 _ A3.out).mono ?_); rintro e w5 ⟨rfl, hb⟩; have n0_ := Aside0.mk (Kd.Q_below (by (with_reducible repeat (first | apply Kd.Q_alloc | apply Kd.Q_drewN | apply Kd.Q_drew)); exact HO0.out) hb); have n1_ := Aside0.mk (Kept.below (S := (fun k_ => P0_ k_)) (by repeat (first | (with_reducible first | exact HK.out | apply Kept.alloc | apply Kept.drewN | apply Kept.drew) | exact HK.out)) hb); have n2_ := Aside0.mk (below_step (by repeat (first | (with_reducible first | exact HB.out | apply below_alloc | apply pw_below_drewN | apply below_drew1) | exact HB.out)) hb); clear HO0; clear HK; clear HB; have HO0 := n0_; have HK := n1_; have HB := n2_; clear n0_ n1_ n2_; (try clear hb); (try clear hb2); (try clear hk); (try clear hi); obtain ⟨Ao6, co6, eo6, _⟩ := Kd.Q_slice HO0.out; subst eo6)); try go_wp2_with (first | (go_at_call 50; (with_reducible refine (thermographref03_cut.calls a1 t411 _ A3.out).mono ?_); rintro e w5 ⟨rfl, hb⟩; have n0_ := Aside0.mk (Kd.Q_below (by (with_reducible repeat (first | apply Kd.Q_alloc | apply Kd.Q_drewN | apply Kd.Q_drew)); exact HO0.out) hb); have n1_ := Aside0.mk (Kept.below (S := (fun k_ => P0_ k_)) (by repeat (first | (with_reducible first | exact HK.out | apply Kept.alloc | apply Kept.drewN | apply Kept.drew) | exact HK.out)) hb); have n2_ := Aside0.mk (below_step (by repeat (first | (with_reducible first | exact HB.out | apply below_alloc | apply pw_below_drewN | apply below_drew1) | exact HB.out)) hb); clear HO0; clear HK; clear HB; have HO0 := n0_; have HK := n1_; have HB := n2_; clear n0_ n1_ n2_; (try clear hb); (try clear hb2); (try clear hk); (try clear hi); obtain ⟨Ao6, co6, eo6, _⟩ := Kd.Q_slice HO0.out; subst eo6)))
    go_ret3
    exact ⟨_, by first | rfl | (simp [errW_none, errW_some] <;> rfl) | (simp [*, errW_none, errW_some] <;> rfl), (by (with_reducible repeat (first | apply Kd.Q_alloc | apply Kd.Q_drewN | apply Kd.Q_drew)); exact HO0.out), by repeat (first | (with_reducible first | exact HB.out | apply below_alloc | apply pw_below_drewN | apply below_drew1) | exact HB.out), by repeat (first | (with_reducible first | exact HK.out | apply Kept.alloc | apply Kept.drewN | apply Kept.drew) | exact HK.out)⟩
  · rw [if_neg c4] at H
    have c4b0 : decide ((l0.length : Int) < t411) = false := decide_eq_false c4
    clear c4
    have H' := Aside0.mk H
    clear H
    go_enter Tryd.func56, Tryd.ntmps56
    go_wp2_with (first | (go_at_call 50; (with_reducible refine (thermographref03_cut.calls a1 t411 _ A3.out).mono ?_); rintro e w7 ⟨rfl, hb⟩; have n0_ := Aside0.mk (Kd.Q_below (by (with_reducible repeat (first | apply Kd.Q_alloc | apply Kd.Q_drewN | apply Kd.Q_drew)); exact HO0.out) hb); have n1_ := Aside0.mk (Kept.below (S := (fun k_ => P0_ k_)) (by repeat (first | (with_reducible first | exact HK.out | apply Kept.alloc | apply Kept.drewN | apply Kept.drew) | exact HK.out)) hb); have n2_ := Aside0.mk (below_step (by repeat (first | (with_reducible first | exact HB.out | apply below_alloc | apply pw_below_drewN | apply below_drew1) | exact HB.out)) hb); clear HO0; clear HK; clear HB; have HO0 := n0_; have HK := n1_; have HB := n2_; clear n0_ n1_ n2_; (try clear hb); (try clear hb2); (try clear hk); (try clear hi); obtain ⟨Ao8, co8, eo8, _⟩ := Kd.Q_slice HO0.out; subst eo8))
    repeat (go_quiet (first | (go_at_call 50; (with_reducible refine (thermographref03_cut.calls a1 t411 _ A3.out).mono ?_); rintro e w7 ⟨rfl, hb⟩; have n0_ := Aside0.mk (Kd.Q_below (by (with_reducible repeat (first | apply Kd.Q_alloc | apply Kd.Q_drewN | apply Kd.Q_drew)); exact HO0.out) hb); have n1_ := Aside0.mk (Kept.below (S := (fun k_ => P0_ k_)) (by repeat (first | (with_reducible first | exact HK.out | apply Kept.alloc | apply Kept.drewN | apply Kept.drew) | exact HK.out)) hb); have n2_ := Aside0.mk (below_step (by repeat (first | (with_reducible first | exact HB.out | apply below_alloc | apply pw_below_drewN | apply below_drew1) | exact HB.out)) hb); clear HO0; clear HK; clear HB; have HO0 := n0_; have HK := n1_; have HB := n2_; clear n0_ n1_ n2_; (try clear hb); (try clear hb2); (try clear hk); (try clear hi); obtain ⟨Ao8, co8, eo8, _⟩ := Kd.Q_slice HO0.out; subst eo8)); try go_wp2_with (first | (go_at_call 50; (with_reducible refine (thermographref03_cut.calls a1 t411 _ A3.out).mono ?_); rintro e w7 ⟨rfl, hb⟩; have n0_ := Aside0.mk (Kd.Q_below (by (with_reducible repeat (first | apply Kd.Q_alloc | apply Kd.Q_drewN | apply Kd.Q_drew)); exact HO0.out) hb); have n1_ := Aside0.mk (Kept.below (S := (fun k_ => P0_ k_)) (by repeat (first | (with_reducible first | exact HK.out | apply Kept.alloc | apply Kept.drewN | apply Kept.drew) | exact HK.out)) hb); have n2_ := Aside0.mk (below_step (by repeat (first | (with_reducible first | exact HB.out | apply below_alloc | apply pw_below_drewN | apply below_drew1) | exact HB.out)) hb); clear HO0; clear HK; clear HB; have HO0 := n0_; have HK := n1_; have HB := n2_; clear n0_ n1_ n2_; (try clear hb); (try clear hb2); (try clear hk); (try clear hi); obtain ⟨Ao8, co8, eo8, _⟩ := Kd.Q_slice HO0.out; subst eo8)))
    go_loopg [7, 8] k (fun kq v7 v8 w' => ∃ (x7_1 : Int) (x8_1 : Int), v7 = .int .u64 x7_1 ∧ v8 = .int .i64 x8_1 ∧ Aside0 (thermographref03_Get.l0 kq l0 t411 x7_1 x8_1 = some (r1, r2, r3)) ∧ Aside0 (kq ≤ k) ∧ Aside0 (Kd.Q (Kd.int .u8) 5 w' w0.heap.size (fun k_ => (P0_ k_ ∨ w.heap.size ≤ k_)) (.slice Ao8 l0.length co8) l0) ∧ Aside0 (Kept w w' (fun k_ => P0_ k_)) ∧ Aside0 (Below w0.heap.size w0 w'))
    case atStart => exact ⟨(0), (0), (by first | rfl | (simp; done) | (simp [*]; done)), (by first | rfl | (simp; done) | (simp [*]; done)), H', ⟨Nat.le_refl _⟩, ⟨by (with_reducible repeat (first | apply Kd.Q_alloc | apply Kd.Q_drewN | apply Kd.Q_drew)); exact HO0.out⟩, ⟨by repeat (first | (with_reducible first | exact HK.out | apply Kept.alloc | apply Kept.drewN | apply Kept.drew) | exact HK.out)⟩, ⟨by repeat (first | (with_reducible first | exact HB.out | apply below_alloc | apply pw_below_drewN | apply below_drew1) | exact HB.out)⟩⟩
    case round =>
      clear H'
      try clear p2
      try clear c4
      try clear c4b0
      try clear c5
      obtain ⟨x7_1, x8_1, rfl, rfl, HA, HK1, HO_0, HK, HB⟩ := hrel
      cases gk with
      | zero => exact absurd HA.out (by simp [thermographref03_Get.l0])
      | succ k1 =>
        have H := HA.out
        clear HA
        simp only [thermographref03_Get.l0] at H
        by_cases c9 : x8_1 < t411
        · rw [if_pos c9] at H
          have c9b0 : decide (x8_1 < t411) = true := decide_eq_true c9
          clear c9
          by_cases c10 : 0 ≤ x8_1
          · rw [if_pos c10] at H
            have c10b0 : decide (0 ≤ x8_1) = true := decide_eq_true c10
            clear c10
            by_cases c11 : x8_1 < (l0.length : Int)
            · rw [if_pos c11] at H
              have c11b0 : decide (x8_1 < (l0.length : Int)) = true := decide_eq_true c11
              clear c11
              have H' := Aside0.mk H
              clear H
              have p412 : 0 ≤ (x8_1 : Int) := of_decide_eq_true (by first | (with_reducible assumption) | assumption)
              have q412 : x8_1 < (l0.length : Int) := of_decide_eq_true (by first | (with_reducible assumption) | assumption)
              obtain ⟨ad412, e412, hx412_0⟩ := Kd.at_int (Kd.Q_reads' HO_0.out).2.2 x8_1 p412 q412
              cases e412
              replace p412 := eq_true p412
              replace q412 := eq_true q412
              go_wp2
              repeat (go_quiet (fail); try go_wp2)
              go_roundg k1
              case measure => have := HK1.out; omega
              case rel => exact ⟨(IntKind.u64.wrap ((IntKind.u64.wrap (x7_1 * 2)) + (IntKind.u64.wrap (rd l0 x8_1)))), (wrap64 (x8_1 + 1)), (by first | rfl | (simp; done) | (simp [*]; done)), (by first | rfl | (simp; done) | (simp [*]; done)), H', ⟨by have := HK1.out; omega⟩, ⟨by (with_reducible repeat (first | apply Kd.Q_alloc | apply Kd.Q_drewN | apply Kd.Q_drew)); exact HO_0.out⟩, ⟨by repeat (first | (with_reducible first | exact HK.out | apply Kept.alloc | apply Kept.drewN | apply Kept.drew) | exact HK.out)⟩, ⟨by repeat (first | (with_reducible first | exact HB.out | apply below_alloc | apply pw_below_drewN | apply below_drew1) | exact HB.out)⟩⟩
            · rw [if_neg c11] at H
              exact absurd H (by simp)
          · rw [if_neg c10] at H
            exact absurd H (by simp)
        · rw [if_neg c9] at H
          have c9b0 : decide (x8_1 < t411) = false := decide_eq_false c9
          clear c9
          by_cases c12 : 0 ≤ t411
          · rw [if_pos c12] at H
            have c12b0 := eq_true c12
            have c12b1 : decide (0 ≤ t411) = true := decide_eq_true c12
            clear c12
            by_cases c13 : t411 ≤ (l0.length : Int)
            · rw [if_pos c13] at H
              have c13b0 := eq_true c13
              have c13b1 : decide (t411 ≤ (l0.length : Int)) = true := decide_eq_true c13
              clear c13
              obtain ⟨y413, hy413⟩ : ∃ y_ : List Int, y_ = (l0.drop (t411 : Int).toNat) := ⟨_, rfl⟩
              replace H : (some (x7_1, y413, true)) = some (r1, r2, r3) := by first | (rw [hy413]; with_reducible exact H) | (have H2_ := (Option.bind_some _ _).symm.trans H; rw [hy413]; with_reducible exact H2_) | (have H2_ := (Option.bind_some _ _).symm.trans H; with_reducible exact H2_) | with_reducible exact H | (rw [hy413]; exact H) | exact H
              have Ny413 := Aside0.mk hy413
              clear hy413
              simp only [Option.some.injEq, Prod.mk.injEq] at H
              obtain ⟨rfl, rfl, rfl⟩ := H
              have q14 : (t411 : Int) ≤ ((l0.length : Int) : Int) := of_decide_eq_true (by first | (with_reducible assumption) | assumption)
              obtain ⟨i014, hi014, _, hsz14, _⟩ := info_parts info5
              have hcut14 := cut_from (P := Tryd.prog) 53 5 .i64 Tryd.underlying53 hi014 1 hsz14 Ao8 l0.length co8 t411 (of_decide_eq_true (by first | (with_reducible assumption) | assumption)) q14
              have hr14 := Kd.Q_drop (k := (t411 : Int).toNat) (HO_0.out) (by omega)
              obtain ⟨A14, hA14⟩ : ∃ A1, A1 = (if co8 = (t411 : Int).toNat then Ao8 else (Ao8 : Option Addr).map (·.add ((t411 : Int).toNat * 1))) := ⟨_, rfl⟩
              obtain ⟨c14, hc14⟩ : ∃ c1, c1 = co8 - (t411 : Int).toNat := ⟨_, rfl⟩
              have hy14 : y413.length = l0.length - (t411 : Int).toNat := (by rw [Ny413.out, List.length_drop])
              rw [← Ny413.out] at hr14
              rw [← hy14, ← hA14, ← hc14] at hcut14
              replace hr14 : Kd.Q (Kd.int .u8) 5 wr w0.heap.size (fun k_ => (P0_ k_ ∨ w.heap.size ≤ k_)) (.slice A14 y413.length c14) y413 := (by rw [hA14, hc14, hy14]; exact hr14)
              have HE14 : Aside0 ((Value.slice A14 y413.length c14).ownBlock = (.slice Ao8 l0.length co8 : Value).ownBlock) := ⟨by rw [hA14]; split <;> (cases (Ao8 : Option Addr) <;> first | rfl | (simp only [Option.map, Value.ownBlock]; unfold Addr.add; split <;> rfl))⟩
              clear hy14 hi014 hsz14 HO_0 hA14 hc14
              have HO415 := Aside0.mk hr14
              clear hr14
              replace q14 := eq_true q14
              go_wp2
              repeat (go_quiet (fail); try go_wp2)
              go_ret3
              exact ⟨_, by first | rfl | (simp [errW_none, errW_some] <;> rfl) | (simp [*, errW_none, errW_some] <;> rfl), by (with_reducible repeat (first | apply Kd.Q_alloc | apply Kd.Q_drewN | apply Kd.Q_drew)); exact HO415.out, by repeat (first | (with_reducible first | exact HB.out | apply below_alloc | apply pw_below_drewN | apply below_drew1) | exact HB.out), by repeat (first | (with_reducible first | exact HK.out | apply Kept.alloc | apply Kept.drewN | apply Kept.drew) | exact HK.out)⟩
            · rw [if_neg c13] at H
              exact absurd H (by simp)
          · rw [if_neg c12] at H
            exact absurd H (by simp)
end Go.Proofs.YtmnlbedgkjnodaaDoor.QB
