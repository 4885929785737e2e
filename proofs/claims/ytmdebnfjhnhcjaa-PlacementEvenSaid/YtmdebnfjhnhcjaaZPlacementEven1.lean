/- More words for a walk's memory (see Sl).
   slices.IndexFunc of layer 14, at each closure that it is called with. -/
import Derived.Test.YtmdebnfjhnhcjaaZPlacementEven0
import Derived.Laws.Rows
import Derived.Laws.Tables
namespace Go.Proofs.Ytmdebnfjhnhcjaa.Sl
open Go.RowKit Go.Proofs.YtmdebnfjhnhcjaaW.PrintWords Go.Proofs.YtmdebnfjhnhcjaaW.PrintLast Go.Proofs.YtmdebnfjhnhcjaaW.PrintMore
set_option linter.unusedVariables false
set_option linter.unusedSimpArgs false
section
variable {α : Type} {d : Kd α} {e : Nat} {v : Value} {xs : List α} {w0 w w' : World} {L : List Asn} {A : Option Addr} {n c : Nat}
theorem Sat.rowC (h : Sat w0 w (Row d e (.slice A n c) xs :: L)) : d.C w A xs.length xs := by
  obtain ⟨G, h1, _⟩ := h.get
  exact (Kd.R_reads' h1).2.2
theorem Sat.rowLen (h : Sat w0 w (Row d e (.slice A n c) xs :: L)) : n = xs.length ∧ n ≤ c := by
  obtain ⟨G, h1, _⟩ := h.get
  exact ⟨(Kd.R_reads' h1).1, (Kd.R_reads' h1).2.1⟩
theorem Sat.rowQC (h : Sat w0 w (RowQ d e (.slice A n c) xs :: L)) : d.C w A xs.length xs := by
  obtain ⟨G, h1, _⟩ := h.get
  exact (Kd.Q_reads' h1).2.2
end
section
variable {P : Program} {ops : Array Oper} {rest : List Oper} {o : Oper} {a : Act} {Q : Exit → Act → World → Prop}
/-- append(v, ys..) of whole numbers. -/
theorem Sat.appendInts {w0 W : World} {L : List Asn} (hgd : o.guard = none) (s x : Operand) (t e : TypeId) (k : IntKind) (bytes : Nat)
    (ho : o.op = .call { callee := .builtin .append, args := #[s, x], argTypes := #[t, t] })
    (ht : P.underlying t = some (.slice e)) (hinfo : (P.info? e).map (fun i => (i.zero, i.size, i.bytes)) = some (some (.int k 0), 1, bytes)) (hb0 : 0 < bytes)
    (v : Value) (xs ys : List Int) (A : Option Addr) (m c : Nat) (hs : a.eval s = v) (hx : a.eval x = .slice A m c)
    (HS : Sat w0 W (Row (Kd.int k) e v xs :: L)) (HR : Kd.C (Kd.int k) W A m ys) (hl : (xs.length + m) * bytes ≤ 140737488355328)
    (h : ∀ v1 w1, Sat w0 w1 (Row (Kd.int k) e v1 (xs ++ ys) :: L) → W.heap.size ≤ w1.heap.size → wpList P ops Q rest (a.put o.dst v1) w1) :
    wpList P ops Q (o :: rest) a W := by
  obtain ⟨G, h1, h2, h3⟩ := HS.seps
  refine Kd.R_append_rows (Kd.int k) w0.heap.size hgd s x t e (.int k 0) bytes ho ht hinfo rfl (Nat.zero_lt_one) hb0 v xs ys A m c (fun k => G k ∨ W.heap.size ≤ k) (fun _ => False) hs hx
    (Kd.R_mono h1 (fun _ hk => .inl hk)) HR (fun _ _ h => h) (fun _ hk => hk.elim) (fun _ hk => .inr hk) HS.below HS.size hl ?_
  intro v1 w1 hR hB hg _
  exact h v1 w1 (Sat.grew HS.below h2 h3 hR hB hg (fun k hk => h1.1 k hk)) hg.size
end
section
variable {α β : Type} {d : Kd α} {d' : Kd β} {e e' : Nat} {v : Value} {xs : List α} {w0 w : World} {L : List Asn}
theorem Sat.rowQSome (h : Sat w0 w (RowQ d e v xs :: L)) : ∃ A c, v = .slice A xs.length c ∧ xs.length ≤ c := by
  obtain ⟨G, h1, _⟩ := h.get
  exact Kd.Q_slice h1
/-- A printed function that reads a cut row and hands back a part of it. -/
theorem Sat.viaKeptQ (h : Sat w0 w (RowQ d e v xs :: L)) : ∃ G : Nat → Prop, d.Q e w w0.heap.size G v xs ∧ (∀ k, G k → w0.heap.size ≤ k ∧ k < w.heap.size) ∧
    ∀ (w' : World) (v1 : Value) (ys : List β), d'.Q e' w' w0.heap.size (fun k => G k ∨ w.heap.size ≤ k) v1 ys → Below w0.heap.size w0 w' → Kept w w' G → Sat w0 w' (RowQ d' e' v1 ys :: L) := by
  have h0s := h.size
  obtain ⟨G, h1, h2, h3⟩ := h.seps
  refine ⟨G, h1, h2, fun w' v1 ys hR hb hk => ?_⟩
  refine ⟨hb, fun k => (G k ∨ w.heap.size ≤ k) ∧ k < w'.heap.size, Kd.Q_mono (Kd.Q_bound hR) (fun k hk => ⟨hk.1, hk.2.2.1⟩), fun k hk => ⟨?_, hk.2⟩, (h3.loc (fun k hk' => hk.2 k hk'.1.2 hk'.2)).mono (fun k hk' => ⟨⟨hk'.1.1, Nat.lt_of_lt_of_le hk'.1.2 hk.1⟩, fun hk2 => ?_⟩)⟩
  · rcases hk.1 with h | h
    · exact (h2 k h).1
    · exact Nat.le_trans h0s h
  · rcases hk2.1 with h | h
    · exact hk'.2 h
    · have := hk'.1.2
      omega
/-- A row of numbers that came in: it stands in whatever world keeps its blocks. -/
theorem C_intF {k : IntKind} {w : World} {A : Option Addr} {n : Nat} {l : List Int} (h : (Kd.int k).C w A n l) : Kd.F (Kd.int k) w (fun _ => True) A n l := fun W' hW => ⟨h.1, h.2.1, fun hn => by
  obtain ⟨ad, e, hc⟩ := h.2.2 hn
  refine ⟨ad, e, fun j p hp => ?_⟩
  obtain ⟨c, hs, hr, hcell⟩ := hc j p hp
  refine ⟨c, hs, hr, fun i u hu => ?_⟩
  have hw := hcell i u hu
  have hlt : (ad.add (j * (Kd.int k).sz + i)).block < w.heap.size := by
    unfold World.cell? at hw
    split at hw
    · rename_i heq
      exact (Array.getElem?_eq_some_iff.1 heq).1
    · cases hw
  unfold World.cell? at hw ⊢
  rw [hW _ trivial hlt]
  exact hw⟩
end
end Go.Proofs.Ytmdebnfjhnhcjaa.Sl
namespace Go.Proofs.Ytmdebnfjhnhcjaa.PlI
open Go.RowKit Go.Proofs.YtmdebnfjhnhcjaaW.PrintWords Go.Proofs.YtmdebnfjhnhcjaaW.PrintLast Go.Proofs.YtmdebnfjhnhcjaaW.PrintMore Go.Proofs.Ytmdebnfjhnhcjaa.QB Go.Proofs.Ytmdebnfjhnhcjaa.Sl
set_option linter.unusedVariables false
set_option linter.unusedSimpArgs false
abbrev Ow := S41
abbrev kO := k41
/-- Where the first is of which p holds; -1: nowhere. -/
def ix {α : Type} (p : α → Bool) (l : List α) : Int := match l.findIdx? p with
  | some i => (i : Int)
  | none => -1
theorem ix_none {α : Type} {p : α → Bool} {l : List α} {z : α} (h : ∀ j, j < l.length → p (l.getD j z) = false) : ix p l = -1 := by
  have : l.findIdx? p = none := by
    rw [List.findIdx?_eq_none_iff]
    intro x hx
    obtain ⟨i, hi, rfl⟩ := List.getElem_of_mem hx
    have := h i hi
    rwa [List.getD_eq_getElem?_getD, List.getElem?_eq_getElem hi] at this
  unfold ix
  rw [this]
theorem ix_at {α : Type} {p : α → Bool} {l : List α} {z : α} {i : Nat} (hi : i < l.length) (hp : p (l.getD i z) = true) (h : ∀ j, j < i → p (l.getD j z) = false) : ix p l = (i : Int) := by
  have : l.findIdx? p = some i := by
    rw [List.findIdx?_eq_some_iff_getElem]
    refine ⟨hi, ?_, fun j hj => ?_⟩
    · rw [List.getD_eq_getElem?_getD, List.getElem?_eq_getElem hi] at hp
      exact hp
    · have := h j hj
      rw [List.getD_eq_getElem?_getD, List.getElem?_eq_getElem (by omega)] at this
      simpa using this
  unfold ix
  rw [this]
theorem ix_cases {α : Type} (p : α → Bool) (l : List α) : (ix p l = -1 ∧ ∀ x ∈ l, p x = false) ∨ ∃ (i : Nat) (h : i < l.length), ix p l = (i : Int) ∧ p l[i] = true ∧ ∀ j (hj : j < i), p l[j] = false := by
  unfold ix
  cases e : l.findIdx? p with
  | none => exact .inl ⟨rfl, List.findIdx?_eq_none_iff.1 e⟩
  | some i =>
    obtain ⟨h1, h2, h3⟩ := List.findIdx?_eq_some_iff_getElem.1 e
    exact .inr ⟨i, h1, rfl, h2, fun j hj => by simpa using h3 j hj⟩
def rest {α : Type} (p : α → Bool) (l : List α) (z : α) (i : Nat) : Prop := ∀ j, j < i → p (l.getD j z) = false
theorem rest_succ {α : Type} {p : α → Bool} {l : List α} {z : α} {i : Nat} (h : rest p l z i) (hp : p (l.getD i z) = false) : rest p l z (i + 1) := fun j hj => by
  by_cases e : j = i
  · subst e; exact hp
  · exact h j (by omega)
theorem at_ints {w : World} {A : Option Addr} {n : Nat} {xs : List Int} (h : Kd.C (Kd.int .i64) w A n xs) (i : Nat) (h1 : i < n) : ∃ ad, A = some ad ∧ w.cell? (ad.add i) = some (.int .i64 (xs.getD i 0)) := by
  obtain ⟨ad, c, e, _, hK, hc0⟩ := Kd.C_get h (0 : Int) (i : Int) (by omega) (by omega)
  rw [Int.toNat_natCast] at hK hc0
  have hK2 : c = [.int .i64 (xs.getD i 0)] := hK
  have hc : ∀ j u, c[j]? = some u → w.cell? (ad.add (i * 1 + j)) = some u := hc0
  subst hK2
  have := hc 0 _ rfl
  rw [Nat.mul_one] at this
  exact ⟨ad, e, this⟩
set_option maxHeartbeats 8000000 in
set_option maxRecDepth 100000 in
theorem idx_own (W : World) (A : Option Addr) (c : Nat) (l : List Ow) (p : Addr) (pr : Ow → Bool) (hl : l.length ≤ 1000000000) (hC : Kd.C kO W A l.length l)
    (hp : ∀ (x : Ow) (w1 : World), Below W.heap.size W w1 → Calls Try.prog 86 #[.agg #[.int .i64 x.f0, .int .i64 x.f1, .int .i64 x.f2], .pointer (some p)] w1 fun e w2 => e = .returned (.bool (pr x)) ∧ Below W.heap.size W w2) :
    Calls Try.prog 87 #[.slice A l.length c, .func (.func 86) #[] #[.pointer (some p)]] W fun e w' => e = .returned (.int .i64 (ix pr l)) ∧ Below W.heap.size W w' := by
  have HP := Aside0.mk hp
  obtain ⟨n, hn⟩ : ∃ n, l.length = n := ⟨_, rfl⟩
  have HN := Aside0.mk hn
  have HC := Aside0.mk (show Kd.C kO W A n l from by rw [← hn]; exact hC)
  rw [hn] at hl ⊢
  clear hp hC hn
  go_enter Try.func87, Try.ntmps87
  go_wp2
  go_loopw [8] (fun v8 wr => ∃ (i : Nat), i ≤ n ∧ v8 = .int .i64 i ∧ Aside0 (rest pr l z41 i) ∧ Aside0 (Below W.heap.size W wr) ) (fun v8 _ => (n - intOf v8).toNat)
  case atStart => exact ⟨0, Nat.zero_le _, rfl, ⟨fun j hj => by omega⟩, ⟨Below.refl _ _⟩⟩
  case round =>
    obtain ⟨i, hin, rfl, HR, HBi⟩ := hrel
    by_cases hi : i < n
    · have e1 : decide ((i : Int) < (n : Int)) = true := decide_eq_true (by omega)
      have e2 : decide (i < n) = true := decide_eq_true hi
      have i1 : (0 : Int) ≤ (i : Int) := by omega
      have i2 : (i : Int) < (n : Int) := by omega
      obtain ⟨ad, hA, q0, q1, q2⟩ := at_T41 (Kd.C_below HC.out HBi.out) (i : Int) i1 i2
      rw [Int.toNat_natCast] at q0 q1 q2
      subst hA
      have hx1 : rd_T41 l (i : Int) = l.getD i z41 := rfl
      rw [hx1] at q0 q1 q2
      obtain ⟨x, hx⟩ : ∃ x, l.getD i z41 = x := ⟨_, rfl⟩
      have HX := Aside0.mk hx
      rw [hx] at q0 q1 q2
      clear hx hx1
      cases hpx : pr x with
      | true =>
        have HPX := Aside0.mk hpx
        clear hpx
        go_wp2_with (first | (go_at_call 86; go_loud ((with_reducible refine (HP.out x _ HBi.out).mono ?_); rintro e w2 ⟨rfl, hb2⟩; rw [HPX.out]; have HB2 := Aside0.mk hb2; clear hb2)))
        go_ret
        exact ⟨by rw [ix_at (z := z41) (i := i) (by have := HN.out; omega) (by rw [HX.out]; exact HPX.out) HR.out]; rfl, HB2.out⟩
      | false =>
        have HPX := Aside0.mk hpx
        clear hpx
        go_wp2_with (first | (go_at_call 86; go_loud ((with_reducible refine (HP.out x _ HBi.out).mono ?_); rintro e w2 ⟨rfl, hb2⟩; rw [HPX.out]; have HB2 := Aside0.mk hb2; clear hb2)))
        go_roundw
        case measure => simp only [intOf]; omega
        case rel => exact ⟨i + 1, by omega, congrArg (Value.int .i64) (by omega), ⟨rest_succ HR.out (by rw [HX.out]; exact HPX.out)⟩, HB2⟩
    · have e1 : decide ((i : Int) < (n : Int)) = false := decide_eq_false (by omega)
      have e2 : decide (i < n) = false := decide_eq_false hi
      go_wp2
      go_ret
      exact ⟨by rw [ix_none (z := z41) (fun j hj => HR.out j (by have := HN.out; omega))]; rfl, HBi.out⟩
set_option maxHeartbeats 8000000 in
set_option maxRecDepth 100000 in
theorem idx_ini (W : World) (A : Option Addr) (c : Nat) (l : List Ow)  (pr : Ow → Bool) (hl : l.length ≤ 1000000000) (hC : Kd.C kO W A l.length l)
    (hp : ∀ (x : Ow) (w1 : World), Below W.heap.size W w1 → Calls Try.prog 81 #[.agg #[.int .i64 x.f0, .int .i64 x.f1, .int .i64 x.f2]] w1 fun e w2 => e = .returned (.bool (pr x)) ∧ Below W.heap.size W w2) :
    Calls Try.prog 87 #[.slice A l.length c, .func (.func 81) #[] #[]] W fun e w' => e = .returned (.int .i64 (ix pr l)) ∧ Below W.heap.size W w' := by
  have HP := Aside0.mk hp
  obtain ⟨n, hn⟩ : ∃ n, l.length = n := ⟨_, rfl⟩
  have HN := Aside0.mk hn
  have HC := Aside0.mk (show Kd.C kO W A n l from by rw [← hn]; exact hC)
  rw [hn] at hl ⊢
  clear hp hC hn
  go_enter Try.func87, Try.ntmps87
  go_wp2
  go_loopw [8] (fun v8 wr => ∃ (i : Nat), i ≤ n ∧ v8 = .int .i64 i ∧ Aside0 (rest pr l z41 i) ∧ Aside0 (Below W.heap.size W wr) ) (fun v8 _ => (n - intOf v8).toNat)
  case atStart => exact ⟨0, Nat.zero_le _, rfl, ⟨fun j hj => by omega⟩, ⟨Below.refl _ _⟩⟩
  case round =>
    obtain ⟨i, hin, rfl, HR, HBi⟩ := hrel
    by_cases hi : i < n
    · have e1 : decide ((i : Int) < (n : Int)) = true := decide_eq_true (by omega)
      have e2 : decide (i < n) = true := decide_eq_true hi
      have i1 : (0 : Int) ≤ (i : Int) := by omega
      have i2 : (i : Int) < (n : Int) := by omega
      obtain ⟨ad, hA, q0, q1, q2⟩ := at_T41 (Kd.C_below HC.out HBi.out) (i : Int) i1 i2
      rw [Int.toNat_natCast] at q0 q1 q2
      subst hA
      have hx1 : rd_T41 l (i : Int) = l.getD i z41 := rfl
      rw [hx1] at q0 q1 q2
      obtain ⟨x, hx⟩ : ∃ x, l.getD i z41 = x := ⟨_, rfl⟩
      have HX := Aside0.mk hx
      rw [hx] at q0 q1 q2
      clear hx hx1
      cases hpx : pr x with
      | true =>
        have HPX := Aside0.mk hpx
        clear hpx
        go_wp2_with (first | (go_at_call 81; go_loud ((with_reducible refine (HP.out x _ HBi.out).mono ?_); rintro e w2 ⟨rfl, hb2⟩; rw [HPX.out]; have HB2 := Aside0.mk hb2; clear hb2)))
        go_ret
        exact ⟨by rw [ix_at (z := z41) (i := i) (by have := HN.out; omega) (by rw [HX.out]; exact HPX.out) HR.out]; rfl, HB2.out⟩
      | false =>
        have HPX := Aside0.mk hpx
        clear hpx
        go_wp2_with (first | (go_at_call 81; go_loud ((with_reducible refine (HP.out x _ HBi.out).mono ?_); rintro e w2 ⟨rfl, hb2⟩; rw [HPX.out]; have HB2 := Aside0.mk hb2; clear hb2)))
        go_roundw
        case measure => simp only [intOf]; omega
        case rel => exact ⟨i + 1, by omega, congrArg (Value.int .i64) (by omega), ⟨rest_succ HR.out (by rw [HX.out]; exact HPX.out)⟩, HB2⟩
    · have e1 : decide ((i : Int) < (n : Int)) = false := decide_eq_false (by omega)
      have e2 : decide (i < n) = false := decide_eq_false hi
      go_wp2
      go_ret
      exact ⟨by rw [ix_none (z := z41) (fun j hj => HR.out j (by have := HN.out; omega))]; rfl, HBi.out⟩
set_option maxHeartbeats 8000000 in
set_option maxRecDepth 100000 in
theorem idx_rig (W : World) (A : Option Addr) (c : Nat) (l : List (List Ow)) (p : Addr) (pr : List Ow → Bool) (hl : l.length ≤ 1000000000) (hC : Kd.C (Kd.slice 41 kO) W A l.length l)
    (hp : ∀ (x : List Ow) (B : Option Addr) (cb : Nat) (w1 : World), x ∈ l → Below W.heap.size W w1 → Kd.C kO w1 B x.length x → x.length ≤ cb → Calls Try.prog 57 #[.slice B x.length cb, .pointer (some p)] w1 fun e w2 => e = .returned (.bool (pr x)) ∧ Below W.heap.size W w2) :
    Calls Try.prog 82 #[.slice A l.length c, .func (.func 57) #[] #[.pointer (some p)]] W fun e w' => e = .returned (.int .i64 (ix pr l)) ∧ Below W.heap.size W w' := by
  have HP := Aside0.mk hp
  obtain ⟨n, hn⟩ : ∃ n, l.length = n := ⟨_, rfl⟩
  have HN := Aside0.mk hn
  have HC := Aside0.mk (show Kd.C (Kd.slice 41 kO) W A n l from by rw [← hn]; exact hC)
  rw [hn] at hl ⊢
  clear hp hC hn
  go_enter Try.func82, Try.ntmps82
  go_wp2
  go_loopw [8] (fun v8 wr => ∃ (i : Nat), i ≤ n ∧ v8 = .int .i64 i ∧ Aside0 (rest pr l ([] : List Ow) i) ∧ Aside0 (Below W.heap.size W wr) ) (fun v8 _ => (n - intOf v8).toNat)
  case atStart => exact ⟨0, Nat.zero_le _, rfl, ⟨fun j hj => by omega⟩, ⟨Below.refl _ _⟩⟩
  case round =>
    obtain ⟨i, hin, rfl, HR, HBi⟩ := hrel
    by_cases hi : i < n
    · have e1 : decide ((i : Int) < (n : Int)) = true := decide_eq_true (by omega)
      have e2 : decide (i < n) = true := decide_eq_true hi
      have i1 : (0 : Int) ≤ (i : Int) := by omega
      have i2 : (i : Int) < (n : Int) := by omega
      obtain ⟨ad, B, cb, hA, q0, q1, q2⟩ := at_L2 (Kd.C_below HC.out HBi.out) (i : Int) i1 i2
      rw [Int.toNat_natCast] at q0
      subst hA
      have hx1 : rd_L2 l (i : Int) = l.getD i ([] : List Ow) := rfl
      rw [hx1] at q0 q1 q2
      have hml : l.getD i ([] : List Ow) ∈ l := by
        have := HN.out
        rw [List.getD_eq_getElem?_getD, List.getElem?_eq_getElem (by omega)]
        exact List.getElem_mem _
      obtain ⟨x, hx⟩ : ∃ x, l.getD i ([] : List Ow) = x := ⟨_, rfl⟩
      have HX := Aside0.mk hx
      rw [hx] at q0 q1 q2 hml
      have HML := Aside0.mk hml
      have HQ2 := Aside0.mk q2
      clear hx hx1 q2 hml
      cases hpx : pr x with
      | true =>
        have HPX := Aside0.mk hpx
        clear hpx
        go_wp2_with (first | (go_at_call 57; go_loud ((with_reducible refine (HP.out x _ _ _ HML.out HBi.out HQ2.out q1).mono ?_); rintro e w2 ⟨rfl, hb2⟩; rw [HPX.out]; have HB2 := Aside0.mk hb2; clear hb2)))
        go_ret
        exact ⟨by rw [ix_at (z := ([] : List Ow)) (i := i) (by have := HN.out; omega) (by rw [HX.out]; exact HPX.out) HR.out]; rfl, HB2.out⟩
      | false =>
        have HPX := Aside0.mk hpx
        clear hpx
        go_wp2_with (first | (go_at_call 57; go_loud ((with_reducible refine (HP.out x _ _ _ HML.out HBi.out HQ2.out q1).mono ?_); rintro e w2 ⟨rfl, hb2⟩; rw [HPX.out]; have HB2 := Aside0.mk hb2; clear hb2)))
        go_roundw
        case measure => simp only [intOf]; omega
        case rel => exact ⟨i + 1, by omega, congrArg (Value.int .i64) (by omega), ⟨rest_succ HR.out (by rw [HX.out]; exact HPX.out)⟩, HB2⟩
    · have e1 : decide ((i : Int) < (n : Int)) = false := decide_eq_false (by omega)
      have e2 : decide (i < n) = false := decide_eq_false hi
      go_wp2
      go_ret
      exact ⟨by rw [ix_none (z := ([] : List Ow)) (fun j hj => HR.out j (by have := HN.out; omega))]; rfl, HBi.out⟩
set_option maxHeartbeats 8000000 in
set_option maxRecDepth 100000 in
theorem idx_bus (W : World) (A : Option Addr) (c : Nat) (l : List (List Ow))  (pr : List Ow → Bool) (hl : l.length ≤ 1000000000) (hC : Kd.C (Kd.slice 41 kO) W A l.length l)
    (hp : ∀ (x : List Ow) (B : Option Addr) (cb : Nat) (w1 : World), x ∈ l → Below W.heap.size W w1 → Kd.C kO w1 B x.length x → x.length ≤ cb → Calls Try.prog 79 #[.slice B x.length cb] w1 fun e w2 => e = .returned (.bool (pr x)) ∧ Below W.heap.size W w2) :
    Calls Try.prog 82 #[.slice A l.length c, .func (.func 79) #[] #[]] W fun e w' => e = .returned (.int .i64 (ix pr l)) ∧ Below W.heap.size W w' := by
  have HP := Aside0.mk hp
  obtain ⟨n, hn⟩ : ∃ n, l.length = n := ⟨_, rfl⟩
  have HN := Aside0.mk hn
  have HC := Aside0.mk (show Kd.C (Kd.slice 41 kO) W A n l from by rw [← hn]; exact hC)
  rw [hn] at hl ⊢
  clear hp hC hn
  go_enter Try.func82, Try.ntmps82
  go_wp2
  go_loopw [8] (fun v8 wr => ∃ (i : Nat), i ≤ n ∧ v8 = .int .i64 i ∧ Aside0 (rest pr l ([] : List Ow) i) ∧ Aside0 (Below W.heap.size W wr) ) (fun v8 _ => (n - intOf v8).toNat)
  case atStart => exact ⟨0, Nat.zero_le _, rfl, ⟨fun j hj => by omega⟩, ⟨Below.refl _ _⟩⟩
  case round =>
    obtain ⟨i, hin, rfl, HR, HBi⟩ := hrel
    by_cases hi : i < n
    · have e1 : decide ((i : Int) < (n : Int)) = true := decide_eq_true (by omega)
      have e2 : decide (i < n) = true := decide_eq_true hi
      have i1 : (0 : Int) ≤ (i : Int) := by omega
      have i2 : (i : Int) < (n : Int) := by omega
      obtain ⟨ad, B, cb, hA, q0, q1, q2⟩ := at_L2 (Kd.C_below HC.out HBi.out) (i : Int) i1 i2
      rw [Int.toNat_natCast] at q0
      subst hA
      have hx1 : rd_L2 l (i : Int) = l.getD i ([] : List Ow) := rfl
      rw [hx1] at q0 q1 q2
      have hml : l.getD i ([] : List Ow) ∈ l := by
        have := HN.out
        rw [List.getD_eq_getElem?_getD, List.getElem?_eq_getElem (by omega)]
        exact List.getElem_mem _
      obtain ⟨x, hx⟩ : ∃ x, l.getD i ([] : List Ow) = x := ⟨_, rfl⟩
      have HX := Aside0.mk hx
      rw [hx] at q0 q1 q2 hml
      have HML := Aside0.mk hml
      have HQ2 := Aside0.mk q2
      clear hx hx1 q2 hml
      cases hpx : pr x with
      | true =>
        have HPX := Aside0.mk hpx
        clear hpx
        go_wp2_with (first | (go_at_call 79; go_loud ((with_reducible refine (HP.out x _ _ _ HML.out HBi.out HQ2.out q1).mono ?_); rintro e w2 ⟨rfl, hb2⟩; rw [HPX.out]; have HB2 := Aside0.mk hb2; clear hb2)))
        go_ret
        exact ⟨by rw [ix_at (z := ([] : List Ow)) (i := i) (by have := HN.out; omega) (by rw [HX.out]; exact HPX.out) HR.out]; rfl, HB2.out⟩
      | false =>
        have HPX := Aside0.mk hpx
        clear hpx
        go_wp2_with (first | (go_at_call 79; go_loud ((with_reducible refine (HP.out x _ _ _ HML.out HBi.out HQ2.out q1).mono ?_); rintro e w2 ⟨rfl, hb2⟩; rw [HPX.out]; have HB2 := Aside0.mk hb2; clear hb2)))
        go_roundw
        case measure => simp only [intOf]; omega
        case rel => exact ⟨i + 1, by omega, congrArg (Value.int .i64) (by omega), ⟨rest_succ HR.out (by rw [HX.out]; exact HPX.out)⟩, HB2⟩
    · have e1 : decide ((i : Int) < (n : Int)) = false := decide_eq_false (by omega)
      have e2 : decide (i < n) = false := decide_eq_false hi
      go_wp2
      go_ret
      exact ⟨by rw [ix_none (z := ([] : List Ow)) (fun j hj => HR.out j (by have := HN.out; omega))]; rfl, HBi.out⟩
set_option maxHeartbeats 8000000 in
set_option maxRecDepth 100000 in
theorem idx_nod (W : World) (A : Option Addr) (c : Nat) (l : List Int)  (pr : Int → Bool) (hl : l.length ≤ 1000000000) (hC : Kd.C (Kd.int .i64) W A l.length l)
    (hp : ∀ (x : Int) (w1 : World), Below W.heap.size W w1 → Calls Try.prog 32 #[.int .i64 x] w1 fun e w2 => e = .returned (.bool (pr x)) ∧ Below W.heap.size W w2) :
    Calls Try.prog 72 #[.slice A l.length c, .func (.func 32) #[] #[]] W fun e w' => e = .returned (.int .i64 (ix pr l)) ∧ Below W.heap.size W w' := by
  have HP := Aside0.mk hp
  obtain ⟨n, hn⟩ : ∃ n, l.length = n := ⟨_, rfl⟩
  have HN := Aside0.mk hn
  have HC := Aside0.mk (show Kd.C (Kd.int .i64) W A n l from by rw [← hn]; exact hC)
  rw [hn] at hl ⊢
  clear hp hC hn
  go_enter Try.func72, Try.ntmps72
  go_wp2
  go_loopw [8] (fun v8 wr => ∃ (i : Nat), i ≤ n ∧ v8 = .int .i64 i ∧ Aside0 (rest pr l (0 : Int) i) ∧ Aside0 (Below W.heap.size W wr) ) (fun v8 _ => (n - intOf v8).toNat)
  case atStart => exact ⟨0, Nat.zero_le _, rfl, ⟨fun j hj => by omega⟩, ⟨Below.refl _ _⟩⟩
  case round =>
    obtain ⟨i, hin, rfl, HR, HBi⟩ := hrel
    by_cases hi : i < n
    · have e1 : decide ((i : Int) < (n : Int)) = true := decide_eq_true (by omega)
      have e2 : decide (i < n) = true := decide_eq_true hi
      have i1 : (0 : Int) ≤ (i : Int) := by omega
      have i2 : (i : Int) < (n : Int) := by omega
      obtain ⟨ad, hA, q0⟩ := at_ints (Kd.C_below HC.out HBi.out) i hi
      subst hA
      obtain ⟨x, hx⟩ : ∃ x, l.getD i (0 : Int) = x := ⟨_, rfl⟩
      have HX := Aside0.mk hx
      rw [hx] at q0
      clear hx
      cases hpx : pr x with
      | true =>
        have HPX := Aside0.mk hpx
        clear hpx
        go_wp2_with (first | (go_at_call 32; go_loud ((with_reducible refine (HP.out x _ HBi.out).mono ?_); rintro e w2 ⟨rfl, hb2⟩; rw [HPX.out]; have HB2 := Aside0.mk hb2; clear hb2)))
        go_ret
        exact ⟨by rw [ix_at (z := (0 : Int)) (i := i) (by have := HN.out; omega) (by rw [HX.out]; exact HPX.out) HR.out]; rfl, HB2.out⟩
      | false =>
        have HPX := Aside0.mk hpx
        clear hpx
        go_wp2_with (first | (go_at_call 32; go_loud ((with_reducible refine (HP.out x _ HBi.out).mono ?_); rintro e w2 ⟨rfl, hb2⟩; rw [HPX.out]; have HB2 := Aside0.mk hb2; clear hb2)))
        go_roundw
        case measure => simp only [intOf]; omega
        case rel => exact ⟨i + 1, by omega, congrArg (Value.int .i64) (by omega), ⟨rest_succ HR.out (by rw [HX.out]; exact HPX.out)⟩, HB2⟩
    · have e1 : decide ((i : Int) < (n : Int)) = false := decide_eq_false (by omega)
      have e2 : decide (i < n) = false := decide_eq_false hi
      go_wp2
      go_ret
      exact ⟨by rw [ix_none (z := (0 : Int)) (fun j hj => HR.out j (by have := HN.out; omega))]; rfl, HBi.out⟩
end Go.Proofs.Ytmdebnfjhnhcjaa.PlI
