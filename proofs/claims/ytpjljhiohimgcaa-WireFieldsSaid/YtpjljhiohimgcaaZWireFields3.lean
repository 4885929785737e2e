/- What functions of the translation come to, each as a Lean function, and a proof that the call comes to just that; or a law's row, out of its plain law. Written by mp.py, a program of this session, which runs the printer of the kit with stand-in bodies for some library functions.
   Plain lemmas: the encoding of numbers in groups of seven bits, and its reading. No program in sight. -/
import Derived.Test.YtpjljhiohimgcaaProg
import Derived.Below
import Derived.Deep.Draws
import Derived.Deep.AppendLies
import Derived.Maps.AppendAt
import Derived.OwnWalk
import Derived.Laws.BytesArg
import Derived.Laws.MakeOwn
import Derived.Laws.OwnMore
import Derived.Deep.OwnRows
import Derived.Tactics
import Derived.Lib.ConvBytes
import Derived.Laws.Slices
import Derived.WalkKit
import Derived.KernelRfl
import Derived.RowKit3
import Derived.Deep.LoopGhost
import Derived.Deep.QuietTactic
import Derived.BigQuiet
import Derived.WideLaws
import Derived.Deep.DeepCutAuto
import Derived.Deep.CutBlock
import Derived.Deep.RegionHeld3
import Derived.Laws.Rows
import Derived.Lib.AppendStr
import Derived.ArgAppend
import Derived.Laws.IdiomCopy
import Derived.OrdersHeld
import Derived.Laws.BitsLemmas
import Derived.RowKit
import Derived.Lib.SliceRun
import Derived.Test.YtpjljhiohimgcaaWWords
import Derived.Test.YtpjljhiohimgcaaWLast
import Derived.Test.YtpjljhiohimgcaaWTab
import Derived.Test.YtpjljhiohimgcaaWFour
import Derived.Test.YtpjljhiohimgcaaWQPut
import Derived.Test.YtpjljhiohimgcaaWApart
import Derived.Test.YtpjljhiohimgcaaWArr
import Derived.Test.YtpjljhiohimgcaaWZeros
import Derived.Test.YtpjljhiohimgcaaWFoot
import Derived.Test.YtpjljhiohimgcaaWKept
import Derived.Test.YtpjljhiohimgcaaWShare
import Derived.Test.YtpjljhiohimgcaaWN
import Derived.Test.YtpjljhiohimgcaaWFootNe
import Derived.Test.YtpjljhiohimgcaaWAt
import Derived.Test.YtpjljhiohimgcaaWEqStruct
import Derived.Test.YtpjljhiohimgcaaWRepsOne
import Derived.Test.YtpjljhiohimgcaaWInv
import Derived.Test.YtpjljhiohimgcaaWInvWords
import Derived.Test.YtpjljhiohimgcaaWGuard
import Derived.Test.YtpjljhiohimgcaaWNEv
import Derived.Test.YtpjljhiohimgcaaWMore
import Derived.Laws.BitsAllLaws
namespace Go.Proofs.Ytpjljhiohimgcaa.QB
open Go.RowKit Go.Proofs.YtpjljhiohimgcaaW.PrintWords Go.Proofs.YtpjljhiohimgcaaW.PrintLast Go.Proofs.YtpjljhiohimgcaaW.PrintMore
attribute [local go_sem] max2_int min2_int max_two min_two max_three min_three max_four min_four   -- for this text's walks alone
set_option linter.unusedVariables false
set_option linter.unusedSimpArgs false



def errW : Option Int → Value
  | none => .nilIface
  | some c => .iface 0 (.int .i64 c)
theorem errW_none : errW none = .nilIface := rfl
theorem errW_some (c : Int) : errW (some c) = .iface 0 (.int .i64 c) := rfl

theorem info5 : (Try.prog.info? 5).map (fun i => (i.zero, i.size, i.bytes)) = some (some (.int .u8 0), 1, 1) := by kernel_rfl
-- the values' own types
/-! #### struct type 49 -/
structure S49 where
  f0 : ByteArray
  f1 : Int
  f2 : Int
  f3 : Int
def z49 : S49 := ⟨(⟨#[]⟩ : ByteArray), (0 : Int), (0 : Int), (0 : Int)⟩
def k49 : Kd S49 := Kd.iso (Kd.pair Kd.string (Kd.pair (Kd.int .i64) (Kd.pair (Kd.int .i64) (Kd.int .u32)))) (fun x : S49 => (x.f0, x.f1, x.f2, x.f3))
theorem k49_open {w : World} {x : S49} {cs : List Value} (h : k49.K w x cs) : cs = [.string x.f0, .int .i64 x.f1, .int .i64 x.f2, .int .u32 x.f3] := by
  obtain ⟨_, _, rfl, rfl, ⟨_, _, rfl, rfl, ⟨_, _, rfl, rfl, rfl⟩⟩⟩ := h
  exact rfl
theorem k49_openM {w : World} {base : Nat} {ok : Nat → Prop} {x : S49} {cs : List Value} (h : k49.M w base ok x cs) : cs = [.string x.f0, .int .i64 x.f1, .int .i64 x.f2, .int .u32 x.f3] := by
  obtain ⟨_, _, rfl, rfl, ⟨_, _, rfl, rfl, ⟨_, _, rfl, rfl, rfl⟩⟩⟩ := h
  exact rfl
theorem k49_mk (w : World) (x : S49)  : k49.K w x [.string x.f0, .int .i64 x.f1, .int .i64 x.f2, .int .u32 x.f3] := ⟨[.string x.f0], [.int .i64 x.f1, .int .i64 x.f2, .int .u32 x.f3], rfl, rfl, ⟨[.int .i64 x.f1], [.int .i64 x.f2, .int .u32 x.f3], rfl, rfl, ⟨[.int .i64 x.f2], [.int .u32 x.f3], rfl, rfl, rfl⟩⟩⟩
theorem k49_mkM (w : World) (base : Nat) (ok : Nat → Prop) (x : S49)  : k49.M w base ok x [.string x.f0, .int .i64 x.f1, .int .i64 x.f2, .int .u32 x.f3] := ⟨[.string x.f0], [.int .i64 x.f1, .int .i64 x.f2, .int .u32 x.f3], rfl, rfl, ⟨[.int .i64 x.f1], [.int .i64 x.f2, .int .u32 x.f3], rfl, rfl, ⟨[.int .i64 x.f2], [.int .u32 x.f3], rfl, rfl, rfl⟩⟩⟩
def rd_T49 (xs : List S49) (i : Int) : S49 := xs.getD i.toNat z49
theorem at_T49 {w : World} {A : Option Addr} {n : Nat} {xs : List S49} (h : Kd.C k49 w A n xs) (i : Int) (h0 : 0 ≤ i) (h1 : i < n) : ∃ ad , A = some ad ∧ w.cell? (ad.add (i.toNat * 4)) = some (.string (rd_T49 xs i).f0) ∧ w.cell? ⟨(ad.add (i.toNat * 4)).block, (ad.add (i.toNat * 4)).off + 1, none⟩ = some (.int .i64 (rd_T49 xs i).f1) ∧ w.cell? ⟨(ad.add (i.toNat * 4)).block, (ad.add (i.toNat * 4)).off + 2, none⟩ = some (.int .i64 (rd_T49 xs i).f2) ∧ w.cell? ⟨(ad.add (i.toNat * 4)).block, (ad.add (i.toNat * 4)).off + 3, none⟩ = some (.int .u32 (rd_T49 xs i).f3) := by
  obtain ⟨ad, c, e, _, hK, hc0⟩ := Kd.C_get h z49 i h0 h1
  have hc : ∀ j u, c[j]? = some u → w.cell? (ad.add (i.toNat * 4 + j)) = some u := hc0
  obtain rfl := k49_open hK
  exact ⟨ad, e, hc 0 _ rfl, by rw [← add_field _ _ 1 (by omega)]; exact hc 1 _ rfl, by rw [← add_field _ _ 2 (by omega)]; exact hc 2 _ rfl, by rw [← add_field _ _ 3 (by omega)]; exact hc 3 _ rfl⟩

/-! #### struct type 26 -/
structure S26 where
  f0 : Int
  f1 : Int
  f2 : Int
def z26 : S26 := ⟨(0 : Int), (0 : Int), (0 : Int)⟩
def k26 : Kd S26 := Kd.iso (Kd.pair (Kd.int .i64) (Kd.pair (Kd.int .u64) (Kd.int .u64))) (fun x : S26 => (x.f0, x.f1, x.f2))
theorem k26_open {w : World} {x : S26} {cs : List Value} (h : k26.K w x cs) : cs = [.int .i64 x.f0, .int .u64 x.f1, .int .u64 x.f2] := by
  obtain ⟨_, _, rfl, rfl, ⟨_, _, rfl, rfl, rfl⟩⟩ := h
  exact rfl
theorem k26_openM {w : World} {base : Nat} {ok : Nat → Prop} {x : S26} {cs : List Value} (h : k26.M w base ok x cs) : cs = [.int .i64 x.f0, .int .u64 x.f1, .int .u64 x.f2] := by
  obtain ⟨_, _, rfl, rfl, ⟨_, _, rfl, rfl, rfl⟩⟩ := h
  exact rfl
theorem k26_mk (w : World) (x : S26)  : k26.K w x [.int .i64 x.f0, .int .u64 x.f1, .int .u64 x.f2] := ⟨[.int .i64 x.f0], [.int .u64 x.f1, .int .u64 x.f2], rfl, rfl, ⟨[.int .u64 x.f1], [.int .u64 x.f2], rfl, rfl, rfl⟩⟩
theorem k26_mkM (w : World) (base : Nat) (ok : Nat → Prop) (x : S26)  : k26.M w base ok x [.int .i64 x.f0, .int .u64 x.f1, .int .u64 x.f2] := ⟨[.int .i64 x.f0], [.int .u64 x.f1, .int .u64 x.f2], rfl, rfl, ⟨[.int .u64 x.f1], [.int .u64 x.f2], rfl, rfl, rfl⟩⟩
def rd_T26 (xs : List S26) (i : Int) : S26 := xs.getD i.toNat z26
theorem at_T26 {w : World} {A : Option Addr} {n : Nat} {xs : List S26} (h : Kd.C k26 w A n xs) (i : Int) (h0 : 0 ≤ i) (h1 : i < n) : ∃ ad , A = some ad ∧ w.cell? (ad.add (i.toNat * 3)) = some (.int .i64 (rd_T26 xs i).f0) ∧ w.cell? ⟨(ad.add (i.toNat * 3)).block, (ad.add (i.toNat * 3)).off + 1, none⟩ = some (.int .u64 (rd_T26 xs i).f1) ∧ w.cell? ⟨(ad.add (i.toNat * 3)).block, (ad.add (i.toNat * 3)).off + 2, none⟩ = some (.int .u64 (rd_T26 xs i).f2) := by
  obtain ⟨ad, c, e, _, hK, hc0⟩ := Kd.C_get h z26 i h0 h1
  have hc : ∀ j u, c[j]? = some u → w.cell? (ad.add (i.toNat * 3 + j)) = some u := hc0
  obtain rfl := k26_open hK
  exact ⟨ad, e, hc 0 _ rfl, by rw [← add_field _ _ 1 (by omega)]; exact hc 1 _ rfl, by rw [← add_field _ _ 2 (by omega)]; exact hc 2 _ rfl⟩

end Go.Proofs.Ytpjljhiohimgcaa.QB
namespace Go.Proofs.Ytpjljhiohimgcaa.Uv
open Go.RowKit Go.Proofs.YtpjljhiohimgcaaW.PrintWords Go.Proofs.YtpjljhiohimgcaaW.PrintLast Go.Proofs.YtpjljhiohimgcaaW.PrintMore
set_option linter.unusedVariables false
set_option linter.unusedSimpArgs false

/-- A number's encoding. -/
def uv (v : Nat) : List Int := if _h : v < 128 then [(v : Int)] else ((v % 128 + 128 : Nat) : Int) :: uv (v / 128)
termination_by v
decreasing_by omega

theorem uv_small {v : Nat} (h : v < 128) : uv v = [(v : Int)] := by rw [uv, dif_pos h]
theorem uv_big {v : Nat} (h : 128 ≤ v) : uv v = ((v % 128 + 128 : Nat) : Int) :: uv (v / 128) := by rw [uv, dif_neg (by omega)]
theorem uv_ne (v : Nat) : uv v ≠ [] := by
  rcases Nat.lt_or_ge v 128 with h | h
  · rw [uv_small h]; simp
  · rw [uv_big h]; simp
theorem uv_pos (v : Nat) : 0 < (uv v).length := List.length_pos_iff.2 (uv_ne v)

theorem uv_induct {P : Nat → Prop} (h0 : ∀ v, v < 128 → P v) (h1 : ∀ v, 128 ≤ v → P (v / 128) → P v) (v : Nat) : P v := by
  induction v using Nat.strongRecOn with
  | _ v ih =>
    rcases Nat.lt_or_ge v 128 with h | h
    · exact h0 v h
    · exact h1 v h (ih _ (by omega))

theorem uv_bytes (v : Nat) : ∀ x ∈ uv v, 0 ≤ x ∧ x < 256 := by
  induction v using uv_induct with
  | h0 v h => rw [uv_small h]; intro x hx; simp at hx; omega
  | h1 v h ih =>
    rw [uv_big h]
    intro x hx
    rcases List.mem_cons.1 hx with rfl | hx
    · omega
    · exact ih x hx

/-- how many bytes -/
theorem uv_length_le (v : Nat) : ∀ n, v < 128 ^ n → 0 < n → (uv v).length ≤ n := by
  induction v using uv_induct with
  | h0 v h => intro n _ hn; rw [uv_small h]; simp; omega
  | h1 v h ih =>
    intro n hv hn
    rw [uv_big h, List.length_cons]
    have hn1 : 1 < n := by
      rcases Nat.lt_or_ge 1 n with h1 | h1
      · exact h1
      · have : n = 1 := by omega
        subst this; omega
    have := ih (n - 1) (by
      have e : 128 ^ n = 128 ^ (n - 1) * 128 := by rw [← Nat.pow_succ]; congr 1; omega
      rw [e] at hv
      exact Nat.div_lt_of_lt_mul (by rwa [Nat.mul_comm])) (by omega)
    omega
theorem uv_length10 {v : Nat} (h : v < 18446744073709551616) : (uv v).length ≤ 10 := uv_length_le v 10 (by omega) (by omega)

/-- The value of a run of bytes: seven bits each. -/
def val : List Int → Nat
  | [] => 0
  | c :: t => c.toNat % 128 + 128 * val t
theorem val_uv (v : Nat) : val (uv v) = v := by
  induction v using uv_induct with
  | h0 v h => rw [uv_small h]; simp [val]; omega
  | h1 v h ih => rw [uv_big h]; simp only [val]; rw [ih]; omega
theorem uv_inj {a b : Nat} (h : uv a = uv b) : a = b := by rw [← val_uv a, ← val_uv b, h]

/-- All but the last are 128 or more; the last is less. -/
def Run : List Int → Prop
  | [] => False
  | [c] => 0 ≤ c ∧ c < 128
  | c :: t => (128 ≤ c ∧ c < 256) ∧ Run t
theorem run_uv (v : Nat) : Run (uv v) := by
  induction v using uv_induct with
  | h0 v h => rw [uv_small h]; simp [Run]; omega
  | h1 v h ih =>
    rw [uv_big h]
    cases hu : uv (v / 128) with
    | nil => exact absurd hu (uv_ne _)
    | cons c t => rw [hu] at ih; exact ⟨by omega, ih⟩
/-- Does it end in a 0 that is not alone? -/
def Tidy : List Int → Prop
  | [] => True
  | [_] => True
  | _ :: t => t ≠ [0] ∧ Tidy t
theorem val_pos : ∀ l : List Int, Run l → Tidy l → l ≠ [0] → 0 < val l
  | [], h, _, _ => h.elim
  | [c], h, _, h0 => by
    simp only [Run] at h
    simp only [val]
    have : c ≠ 0 := fun e => h0 (by rw [e])
    omega
  | c :: d :: t, h, ht, _ => by
    have := val_pos (d :: t) h.2 ht.2 ht.1
    simp only [val] at this ⊢
    omega
theorem uv_val : ∀ l : List Int, Run l → Tidy l → uv (val l) = l
  | [], h, _ => h.elim
  | [c], h, _ => by
    simp only [Run] at h
    rw [uv_small (by simp only [val]; omega)]
    simp only [val]
    congr 1
    omega
  | c :: d :: t, h, ht => by
    have h1 := uv_val (d :: t) h.2 ht.2
    have h2 := val_pos (d :: t) h.2 ht.2 ht.1
    have h3 := h.1
    have e : val (c :: d :: t) = c.toNat % 128 + 128 * val (d :: t) := rfl
    rw [e, uv_big (by omega), show (c.toNat % 128 + 128 * val (d :: t)) / 128 = val (d :: t) from by omega, h1]
    congr 1
    omega
theorem tidy_uv (v : Nat) : Tidy (uv v) := by
  induction v using uv_induct with
  | h0 v h => rw [uv_small h]; trivial
  | h1 v h ih =>
    rw [uv_big h]
    cases hu : uv (v / 128) with
    | nil => exact absurd hu (uv_ne _)
    | cons c t =>
      rw [hu] at ih
      refine ⟨fun e => ?_, ih⟩
      have := val_uv (v / 128)
      rw [hu, e] at this
      simp [val] at this
      omega

/-- The reading of a number: it, and how many bytes it has; 0, 0: there is none. -/
def ruvGo : Nat → Nat → List Int → Int × Int
  | _, _, [] => (0, 0)
  | i, acc, c :: t => if i = 9 ∧ c > 1 then (0, 0) else if c < 128 then (if c = 0 ∧ 0 < i then (0, 0) else (((acc + c.toNat % 128 * 2 ^ (7 * i) : Nat) : Int), ((i + 1 : Nat) : Int))) else ruvGo (i + 1) (acc + c.toNat % 128 * 2 ^ (7 * i)) t
def ruv (l : List Int) : Int × Int := ruvGo 0 0 l

theorem pow7 (i : Nat) : (2 : Nat) ^ (7 * (i + 1)) = 128 * 2 ^ (7 * i) := by rw [show 7 * (i + 1) = 7 * i + 7 from by omega, Nat.pow_add]; omega
theorem two7 (i : Nat) : 0 < (2 : Nat) ^ (7 * i) := Nat.pow_pos (by omega)

/-- What is written is read. -/
theorem ruvGo_uv (v : Nat) : ∀ (i acc : Nat) (t : List Int), v * 2 ^ (7 * i) < 18446744073709551616 → (0 < i → 0 < v) → ruvGo i acc (uv v ++ t) = (((acc + v * 2 ^ (7 * i) : Nat) : Int), ((i + (uv v).length : Nat) : Int)) := by
  induction v using uv_induct with
  | h0 v h =>
    intro i acc t hv hi
    rw [uv_small h]
    simp only [List.cons_append, List.nil_append, ruvGo]
    rw [if_neg, if_pos (by omega), if_neg (by omega)]
    · rw [Int.toNat_natCast, Nat.mod_eq_of_lt h]
      rfl
    · rintro ⟨rfl, h2⟩
      simp at hv
      omega
  | h1 v h ih =>
    intro i acc t hv hi
    have hp := two7 i
    have hlt : i < 9 := by
      rcases Nat.lt_or_ge i 9 with h9 | h9
      · exact h9
      · exfalso
        have : (2 : Nat) ^ (7 * 9) ≤ 2 ^ (7 * i) := Nat.pow_le_pow_right (by omega) (by omega)
        have : 128 * 2 ^ (7 * 9) ≤ v * 2 ^ (7 * i) := Nat.mul_le_mul h this
        omega
    rw [uv_big h]
    simp only [List.cons_append, ruvGo]
    rw [if_neg (by omega), if_neg (by omega)]
    have hm : v / 128 * 2 ^ (7 * (i + 1)) ≤ v * 2 ^ (7 * i) := by
      rw [pow7, ← Nat.mul_assoc]
      exact Nat.mul_le_mul_right _ (by omega)
    rw [ih (i + 1) _ t (by omega) (by omega)]
    have e : ((v % 128 + 128 : Nat) : Int).toNat % 128 = v % 128 := by omega
    rw [e, pow7]
    have e2 : acc + v % 128 * 2 ^ (7 * i) + v / 128 * (128 * 2 ^ (7 * i)) = acc + v * 2 ^ (7 * i) := by
      rw [← Nat.mul_assoc, Nat.add_assoc, ← Nat.add_mul]
      congr 2
      omega
    rw [e2]
    simp
    omega
theorem ruv_uv {v : Nat} (h : v < 18446744073709551616) (t : List Int) : ruv (uv v ++ t) = ((v : Int), ((uv v).length : Int)) := by
  unfold ruv
  rw [ruvGo_uv v 0 0 t (by simpa using h) (by omega)]
  simp
theorem ruv_uv' {v : Nat} (h : v < 18446744073709551616) : ruv (uv v) = ((v : Int), ((uv v).length : Int)) := by
  have := ruv_uv h []
  rwa [List.append_nil] at this

/-- What is read was written. -/
theorem ruvGo_sound : ∀ (l : List Int) (i acc : Nat), i ≤ 9 → (∀ x ∈ l, 0 ≤ x ∧ x < 256) → ∀ r n, ruvGo i acc l = (r, n) → n ≠ 0 →
    ∃ v t, l = uv v ++ t ∧ r = ((acc + v * 2 ^ (7 * i) : Nat) : Int) ∧ n = ((i + (uv v).length : Nat) : Int) ∧ v * 2 ^ (7 * i) < 18446744073709551616 ∧ (0 < i → 0 < v)
  | [], i, acc, _, _, r, n, h, hn => by
    simp only [ruvGo, Prod.mk.injEq] at h
    exact absurd h.2.symm hn
  | c :: t, i, acc, hi, hb, r, n, h, hn => by
    have hc := hb c List.mem_cons_self
    simp only [ruvGo] at h
    by_cases h9 : i = 9 ∧ c > 1
    · rw [if_pos h9] at h
      simp only [Prod.mk.injEq] at h
      exact absurd h.2.symm hn
    rw [if_neg h9] at h
    by_cases h128 : c < 128
    · rw [if_pos h128] at h
      by_cases h0 : c = 0 ∧ 0 < i
      · rw [if_pos h0] at h
        simp only [Prod.mk.injEq] at h
        exact absurd h.2.symm hn
      rw [if_neg h0] at h
      simp only [Prod.mk.injEq] at h
      refine ⟨c.toNat, t, ?_, ?_, ?_, ?_, by omega⟩
      · rw [uv_small (by omega)]
        simp
        omega
      · rw [← h.1, show c.toNat % 128 = c.toNat from by omega]
      · rw [← h.2, uv_small (by omega)]
        simp
      · rcases Nat.lt_or_ge i 9 with hlt | hge
        · have : (2 : Nat) ^ (7 * i) ≤ 2 ^ (7 * 8) := Nat.pow_le_pow_right (by omega) (by omega)
          have : c.toNat * 2 ^ (7 * i) ≤ 127 * 2 ^ (7 * 8) := Nat.mul_le_mul (by omega) this
          omega
        · have e : i = 9 := by omega
          subst e
          have : c.toNat ≤ 1 := by omega
          have : c.toNat * 2 ^ (7 * 9) ≤ 1 * 2 ^ (7 * 9) := Nat.mul_le_mul_right _ this
          omega
    · rw [if_neg h128] at h
      have hi' : i + 1 ≤ 9 := by omega
      obtain ⟨v, t', ht, hr, hn', hv, hv0⟩ := ruvGo_sound t (i + 1) _ hi' (fun x hx => hb x (List.mem_cons_of_mem _ hx)) r n h hn
      have hv1 := hv0 (by omega)
      have hw : (c.toNat % 128 + 128 * v) / 128 = v := by omega
      have hu : uv (c.toNat % 128 + 128 * v) = c :: uv v := by
        rw [uv_big (by omega), hw]
        congr 1
        omega
      have hp := two7 i
      have e1 : (c.toNat % 128 + 128 * v) * 2 ^ (7 * i) = c.toNat % 128 * 2 ^ (7 * i) + v * 2 ^ (7 * (i + 1)) := by
        rw [pow7, Nat.add_mul, ← Nat.mul_assoc, Nat.mul_comm 128 v]
      refine ⟨c.toNat % 128 + 128 * v, t', ?_, ?_, ?_, ?_, by omega⟩
      · rw [hu, ht]; rfl
      · rw [hr, e1]
        congr 1
        omega
      · rw [hn', hu, List.length_cons]
        congr 1
        omega
      · rw [e1, pow7]
        have hd : (18446744073709551616 : Nat) = 128 * 2 ^ (7 * i) * (2 ^ (57 - 7 * i)) ∨ i = 9 ∨ ¬ i ≤ 8 := by
          rcases Nat.lt_or_ge i 9 with h1 | h1
          · left
            rw [Nat.mul_assoc, ← Nat.pow_add, show 7 * i + (57 - 7 * i) = 57 from by omega]
          · right; left; omega
        rcases hd with hd | hd | hd
        · have hv2 : v < 2 ^ (57 - 7 * i) := by
            rw [pow7, hd, Nat.mul_comm (128 * 2 ^ (7 * i))] at hv
            exact Nat.lt_of_mul_lt_mul_right hv
          have h3 : c.toNat % 128 * 2 ^ (7 * i) < 128 * 2 ^ (7 * i) := Nat.mul_lt_mul_of_pos_right (by omega) hp
          have h4 : (v + 1) * (128 * 2 ^ (7 * i)) ≤ 2 ^ (57 - 7 * i) * (128 * 2 ^ (7 * i)) := Nat.mul_le_mul_right _ hv2
          rw [Nat.add_mul] at h4
          rw [Nat.mul_comm (2 ^ (57 - 7 * i)), ← hd] at h4
          omega
        · omega
        · omega
theorem ruv_sound {l : List Int} (hb : ∀ x ∈ l, 0 ≤ x ∧ x < 256) {r n : Int} (h : ruv l = (r, n)) (hn : n ≠ 0) :
    ∃ (v : Nat) (t : List Int), l = uv v ++ t ∧ r = (v : Int) ∧ n = ((uv v).length : Int) ∧ v < 18446744073709551616 := by
  obtain ⟨v, t, h1, h2, h3, h4, _⟩ := ruvGo_sound l 0 0 (by omega) hb r n h hn
  exact ⟨v, t, h1, by simpa using h2, by simpa using h3, by simpa using h4⟩
theorem ruvGo_none : ∀ (l : List Int) (i acc : Nat) (r : Int), ruvGo i acc l = (r, 0) → r = 0
  | [], _, _, r, h => by simp only [ruvGo, Prod.mk.injEq] at h; exact h.1.symm
  | c :: t, i, acc, r, h => by
    simp only [ruvGo] at h
    split at h
    · simp only [Prod.mk.injEq] at h; exact h.1.symm
    · split at h
      · split at h
        · simp only [Prod.mk.injEq] at h; exact h.1.symm
        · simp only [Prod.mk.injEq] at h; omega
      · exact ruvGo_none t _ _ r h
theorem ruv_none {l : List Int} {r : Int} (h : ruv l = (r, 0)) : r = 0 := ruvGo_none l 0 0 r h
/-- One of two: a number stands there, or none. -/
theorem ruv_cases {l : List Int} (hb : ∀ x ∈ l, 0 ≤ x ∧ x < 256) :
    (ruv l = (0, 0) ∧ ∀ v t, v < 18446744073709551616 → l ≠ uv v ++ t) ∨ ∃ (v : Nat) (t : List Int), l = uv v ++ t ∧ v < 18446744073709551616 ∧ ruv l = ((v : Int), ((uv v).length : Int)) := by
  by_cases hn : (ruv l).2 = 0
  · left
    have h1 : ruv l = ((ruv l).1, 0) := by rw [← hn]
    have h2 := ruv_none h1
    refine ⟨by rw [h1, h2], fun v t hv e => ?_⟩
    rw [e, ruv_uv hv] at hn
    have := uv_pos v
    simp at hn
    exact uv_ne v hn
  · right
    obtain ⟨v, t, h1, h2, h3, h4⟩ := ruv_sound hb (r := (ruv l).1) (n := (ruv l).2) rfl hn
    exact ⟨v, t, h1, h4, by rw [← h2, ← h3]⟩
end Go.Proofs.Ytpjljhiohimgcaa.Uv
