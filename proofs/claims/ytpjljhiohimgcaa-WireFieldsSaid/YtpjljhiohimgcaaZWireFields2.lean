/- A string's bytes behind a row of bytes, over any frame (see Sl).
   More words for a walk's memory (see Sl): whole rows behind a row, in a region that draws its order; a full cut. -/
import Derived.Test.YtpjljhiohimgcaaZWireFields1
import Derived.Lib.AppendStr
import Derived.Lib.SliceRun
namespace Go.Proofs.Ytpjljhiohimgcaa.Sl
open Go.RowKit Go.Proofs.YtpjljhiohimgcaaW.PrintWords Go.Proofs.YtpjljhiohimgcaaW.PrintLast Go.Proofs.YtpjljhiohimgcaaW.PrintMore
set_option linter.unusedVariables false
set_option linter.unusedSimpArgs false
theorem append_str_block {P : Program} (w : World) (base : Nat) (t u ty e : TypeId) (i : TypeInfo) (ht : P.underlying t = some (.slice e)) (hu : P.underlying u = some .string) (hi : P.info? e = some i) (hz : i.zero = some (.int .u8 0))
    (hsize : i.size = 1) (hby : i.bytes = 1) (v : Value) (n : Nat) (xs : List Value) (hown : w.ownsRow base e 1 v n xs) (s : ByteArray) (h63 : n + s.size ≤ maxLen) (hbytes : n + s.size ≤ 140737488355328) (hbase : base ≤ w.heap.size) :
    ∃ v' w', (Builtin.append_ #[t, u] ty #[v, .string s]).run P w = .ok v' w' ∧ w'.ownsRow base e 1 v' (n + s.size) (xs ++ Lib.strCells s) ∧ w.grownBy w' v.ownBlock ∧ (∀ k, v'.ownBlock = some k → v.ownBlock = some k ∨ w.heap.size ≤ k) := by
  obtain ⟨v', w', hr, h2, h3, _⟩ := Lib.run_append_own_string (P := P) w base t u ty e i ht hu hi hz hsize hby v n xs hown s h63 hbytes hbase
  refine ⟨v', w', hr, h2, h3, ?_⟩
  have hxl : xs.length = n := by simpa using hown.1
  rcases hown.2 with ⟨rfl, rfl⟩ | ⟨g, cap, cur, rfl, hbg, hg, hnc, hcm, hcs, htake⟩
  · have hx : xs = [] := List.eq_nil_of_length_eq_zero hxl
    subst hx
    obtain ⟨v2, w2, hr2, h4, _, _⟩ := Lib.run_append_own_string (P := P) w w.heap.size t u ty e i ht hu hi hz hsize hby (.slice none 0 0) 0 [] (World.ownsRow_nil w _ e 1) s h63 hbytes (Nat.le_refl _)
    rw [hr] at hr2
    simp only [Result.ok.injEq] at hr2
    obtain ⟨rfl, rfl⟩ := hr2
    intro k hk
    refine .inr ?_
    rcases h4.2 with ⟨rfl, _⟩ | ⟨g, cap, cur, rfl, hbg, _⟩
    · cases hk
    · have e : g = k := by simpa [Value.ownBlock] using hk
      omega
  · have hcs' : cur.size = cap := by simpa using hcs
    by_cases hroom : n + s.size ≤ cap
    · have hr2 := Lib.run_append_room_string (P := P) w t u ty e i ht hu hi hsize g n cap cur hg s hroom (by omega)
      rw [hr] at hr2
      simp only [Result.ok.injEq] at hr2
      obtain ⟨rfl, _⟩ := hr2
      exact fun k hk => .inl hk
    · have holds : ∀ j u, xs[j]? = some u → w.cell? ((⟨g, 0, none⟩ : Addr).add j) = some u := hown.cells (g := g) rfl
      have h63' : n + s.size ≤ 9223372036854775807 := by simp only [maxLen] at h63; omega
      have hr2 := Lib.run_append_grow_string (P := P) w t u ty e i (.int .u8 0) ht hu hi hz ⟨g, 0, none⟩ n cap xs (by rw [hsize]; simpa using hxl) holds s (by omega) (by omega) (by rw [hby]; exact growslice_fits (by omega) (by omega))
      rw [hr] at hr2
      simp only [Result.ok.injEq] at hr2
      obtain ⟨rfl, _⟩ := hr2
      intro k hk
      have e : w.heap.size = k := by simpa [Value.ownBlock] using hk
      omega
section
variable {P : Program} {ops : Array Oper} {rest : List Oper} {o : Oper} {a : Act} {Q : Exit → Act → World → Prop} {Kc : Act → World → Prop}
theorem Sat.runStr {w0 W : World} {L : List Asn} (t u ty e : TypeId) (ht : P.underlying t = some (.slice e)) (hu : P.underlying u = some .string) (hinfo : (P.info? e).map (fun i => (i.zero, i.size, i.bytes)) = some (some (.int .u8 0), 1, 1))
    (v : Value) (xs : List Int) (y : ByteArray) (HS : Sat w0 W (Row (Kd.int .u8) e v xs :: L)) (hl : xs.length + y.size ≤ 140737488355328) :
    ∃ v1 w1, (Builtin.append_ #[t, u] ty #[v, .string y]).run P W = .ok v1 w1 ∧ Sat w0 w1 (Row (Kd.int .u8) e v1 (xs ++ bytesOf y) :: L) ∧ W.heap.size ≤ w1.heap.size := by
  obtain ⟨i0, hi, hzz⟩ := Option.map_eq_some_iff.1 hinfo
  simp only [Prod.mk.injEq] at hzz
  obtain ⟨hz0, hz1, hz2⟩ := hzz
  obtain ⟨G, h1, h2, h3⟩ := HS.seps
  obtain ⟨v1, w1, hr, hown, hg, hb⟩ := append_str_block (P := P) W w0.heap.size t u ty e i0 ht hu hi hz0 hz1 hz2 v xs.length (nums .u8 xs) (Kd.own_of_R h1) y (by simp only [maxLen]; omega) hl HS.size
  have hl2 : (xs ++ bytesOf y).length = xs.length + y.size := by rw [List.length_append, bytesOf_length]
  have hc : nums .u8 (xs ++ bytesOf y) = nums .u8 xs ++ Lib.strCells y := by
    rw [nums_append]
    congr 1
    simp [nums, bytesOf, Lib.strCells]
  have hR : (Kd.int .u8).R e w1 w0.heap.size (fun k => G k ∨ W.heap.size ≤ k) v1 (xs ++ bytesOf y) := Kd.R_of_own (h1 := fun _ => rfl) (by rw [hl2]; show w1.ownsRow _ _ _ _ _ (nums .u8 (xs ++ bytesOf y)); rw [hc]; exact hown) (fun k hk => (hb k hk).elim (fun h => .inl (h1.1 k h)) .inr)
  exact ⟨v1, w1, hr, Sat.grew HS.below h2 h3 hR (HS.below.grown hg HS.size (own_base (Kd.own_of_R h1))) hg (fun k hk => h1.1 k hk), hg.size⟩
/-- append(v, y..), y a string. -/
theorem Sat.appendStr {w0 W : World} {L : List Asn} (hgd : o.guard = none) (s x : Operand) (t u e : TypeId)
    (ho : o.op = .call { callee := .builtin .append, args := #[s, x], argTypes := #[t, u] })
    (ht : P.underlying t = some (.slice e)) (hu : P.underlying u = some .string) (hinfo : (P.info? e).map (fun i => (i.zero, i.size, i.bytes)) = some (some (.int .u8 0), 1, 1))
    (v : Value) (xs : List Int) (y : ByteArray) (hs : a.eval s = v) (hx : a.eval x = .string y)
    (HS : Sat w0 W (Row (Kd.int .u8) e v xs :: L)) (hl : xs.length + y.size ≤ 140737488355328)
    (h : ∀ v1 w1, Sat w0 w1 (Row (Kd.int .u8) e v1 (xs ++ bytesOf y) :: L) → W.heap.size ≤ w1.heap.size → wpList P ops Q rest (a.put o.dst v1) w1) :
    wpList P ops Q (o :: rest) a W := by
  obtain ⟨v1, w1, hr, h1, h2⟩ := Sat.runStr (P := P) t u o.type e ht hu hinfo v xs y HS hl
  refine wpList_plain hgd fun K hK => ?_
  unfold Oper.wp execOp
  simp only [ho, resolve, invoke, builtin, Sem.run_bind, Sem.run_pure, Result.andThen_ok, List.map_toArray, List.map_cons, List.map_nil, hs, hx, hr]
  exact hK _ _ (h v1 w1 h1 h2)
theorem Sat.appendStrStep {w0 W : World} {L : List Asn} (hw : Region.wanted o (yielded ops a.tmps) = true) (s x : Operand) (t u e : TypeId)
    (ho : o.op = .call { callee := .builtin .append, args := #[s, x], argTypes := #[t, u] })
    (ht : P.underlying t = some (.slice e)) (hu : P.underlying u = some .string) (hinfo : (P.info? e).map (fun i => (i.zero, i.size, i.bytes)) = some (some (.int .u8 0), 1, 1))
    (v : Value) (xs : List Int) (y : ByteArray) (hs : a.eval s = v) (hx : a.eval x = .string y)
    (HS : Sat w0 W (Row (Kd.int .u8) e v xs :: L)) (hl : xs.length + y.size ≤ 140737488355328)
    (h : ∀ v1 w1, Sat w0 w1 (Row (Kd.int .u8) e v1 (xs ++ bytesOf y) :: L) → W.heap.size ≤ w1.heap.size → Kc (a.put o.dst v1) w1) :
    if Region.wanted o (yielded ops a.tmps) = true then Oper.wp P o a W Kc Q else Kc (a.put o.dst undef) W := by
  obtain ⟨v1, w1, hr, h1, h2⟩ := Sat.runStr (P := P) t u o.type e ht hu hinfo v xs y HS hl
  rw [if_pos hw]
  unfold Oper.wp execOp
  simp only [ho, resolve, invoke, builtin, Sem.run_bind, Sem.run_pure, Result.andThen_ok, List.map_toArray, List.map_cons, List.map_nil, hs, hx, hr]
  exact h v1 w1 h1 h2
end
end Go.Proofs.Ytpjljhiohimgcaa.Sl
namespace Go.Proofs.Ytpjljhiohimgcaa.Sl
open Go.RowKit Go.Proofs.YtpjljhiohimgcaaW.PrintWords Go.Proofs.YtpjljhiohimgcaaW.PrintLast Go.Proofs.YtpjljhiohimgcaaW.PrintMore
set_option linter.unusedVariables false
section
variable {P : Program} {ops : Array Oper} {rest : List Oper} {o : Oper} {a : Act} {Q : Exit → Act → World → Prop} {Kc : Act → World → Prop} {α : Type}
theorem Sat.appendRows (d : Kd α) {w0 W : World} {L : List Asn} (hgd : o.guard = none) (s x : Operand) (t e : TypeId) (z : Value) (bytes : Nat)
    (ho : o.op = .call { callee := .builtin .append, args := #[s, x], argTypes := #[t, t] })
    (ht : P.underlying t = some (.slice e)) (hinfo : (P.info? e).map (fun i => (i.zero, i.size, i.bytes)) = some (some z, d.sz, bytes)) (hz : z.cells.size = d.sz) (hs0 : 0 < d.sz) (hb0 : 0 < bytes)
    (v : Value) (xs ys : List α) (A : Option Addr) (m c : Nat) (hs : a.eval s = v) (hx : a.eval x = .slice A m c)
    (HS : Sat w0 W (Row d e v xs :: L)) (HR : Kd.C d W A m ys) (hKM : ∀ x cs, d.K W x cs → d.M W w0.heap.size (fun _ => False) x cs) (hl : (xs.length + m) * bytes ≤ 140737488355328)
    (h : ∀ v1 w1, Sat w0 w1 (Row d e v1 (xs ++ ys) :: L) → W.heap.size ≤ w1.heap.size → wpList P ops Q rest (a.put o.dst v1) w1) :
    wpList P ops Q (o :: rest) a W := by
  obtain ⟨G, h1, h2, h3⟩ := HS.seps
  refine Kd.R_append_rows d w0.heap.size hgd s x t e z bytes ho ht hinfo hz hs0 hb0 v xs ys A m c (fun k => G k ∨ W.heap.size ≤ k) (fun _ => False) hs hx
    (Kd.R_mono h1 (fun _ hk => .inl hk)) HR hKM (fun _ hk => hk.elim) (fun _ hk => .inr hk) HS.below HS.size hl ?_
  intro v1 w1 hR hB hg _
  exact h v1 w1 (Sat.grew HS.below h2 h3 hR hB hg (fun k hk => h1.1 k hk)) hg.size
theorem Sat.appendRowsStep (d : Kd α) {w0 W : World} {L : List Asn} (hw : Region.wanted o (yielded ops a.tmps) = true) (s x : Operand) (t e : TypeId) (z : Value) (bytes : Nat)
    (ho : o.op = .call { callee := .builtin .append, args := #[s, x], argTypes := #[t, t] })
    (ht : P.underlying t = some (.slice e)) (hinfo : (P.info? e).map (fun i => (i.zero, i.size, i.bytes)) = some (some z, d.sz, bytes)) (hz : z.cells.size = d.sz) (hs0 : 0 < d.sz) (hb0 : 0 < bytes)
    (v : Value) (xs ys : List α) (A : Option Addr) (m c : Nat) (hs : a.eval s = v) (hx : a.eval x = .slice A m c)
    (HS : Sat w0 W (Row d e v xs :: L)) (HR : Kd.C d W A m ys) (hKM : ∀ x cs, d.K W x cs → d.M W w0.heap.size (fun _ => False) x cs) (hl : (xs.length + m) * bytes ≤ 140737488355328)
    (h : ∀ v1 w1, Sat w0 w1 (Row d e v1 (xs ++ ys) :: L) → W.heap.size ≤ w1.heap.size → Kc (a.put o.dst v1) w1) :
    if Region.wanted o (yielded ops a.tmps) = true then Oper.wp P o a W Kc Q else Kc (a.put o.dst undef) W := by
  obtain ⟨G, h1, h2, h3⟩ := HS.seps
  refine Kd.R_append_rows_step d w0.heap.size hw s x t e z bytes ho ht hinfo hz hs0 hb0 v xs ys A m c (fun k => G k ∨ W.heap.size ≤ k) (fun _ => False) hs hx
    (Kd.R_mono h1 (fun _ hk => .inl hk)) HR hKM (fun _ hk => hk.elim) (fun _ hk => .inr hk) HS.below HS.size hl ?_
  intro v1 w1 hR hB hg _
  exact h v1 w1 (Sat.grew HS.below h2 h3 hR hB hg (fun k hk => h1.1 k hk)) hg.size
end
theorem Seps.first {B : Nat} {w : World} {A : Asn} {L : List Asn} {F : Nat → Prop} (h : Seps B w (A :: L) F) : Seps B w (A :: []) F := by
  obtain ⟨G, h1, h2, _⟩ := h
  exact ⟨G, h1, h2, trivial⟩
/-- '[]T{x}', of a whole number. -/
theorem Sat.litInt {w0 w : World} {L : List Asn} {k : IntKind} {e : Nat} (x : Int) (h : Sat w0 w L) : Sat w0 (w.alloc (.cells #[.int k x] e)) (Row (Kd.int k) e (.slice (some ⟨w.heap.size, 0, none⟩) 1 1) [x] :: L) := by
  refine h.push (below_alloc (Below.refl _ _) _) (G' := fun k => k = w.heap.size) (Kd.R_of_own (h1 := fun _ => rfl) ?_ (fun k hk => ?_)) (fun k hk => by subst hk; simp)
  · exact World.ownsRow_lit (base := w0.heap.size) (e := e) (size := 1) w #[.int k x] 1 h.size (by simp [maxLen]) (by simp)
  · have : w.heap.size = k := by simpa [Value.ownBlock] using hk
    exact this.symm
theorem Sat.litInts {w0 w : World} {L : List Asn} {k : IntKind} {e : Nat} (xs : List Int) (n : Nat) (hn : xs.length = n) (hm : n ≤ 1000) (h : Sat w0 w L) : Sat w0 (w.alloc (.cells (nums k xs).toArray e)) (Row (Kd.int k) e (.slice (some ⟨w.heap.size, 0, none⟩) n n) xs :: L) := by
  subst hn
  refine h.push (below_alloc (Below.refl _ _) _) (G' := fun k => k = w.heap.size) (Kd.R_of_own (h1 := fun _ => rfl) ?_ (fun k hk => ?_)) (fun k hk => by subst hk; simp)
  · exact World.ownsRow_lit (base := w0.heap.size) (e := e) (size := 1) w (nums k xs).toArray xs.length h.size (by simp only [maxLen]; omega) (by simp [nums])
  · have : w.heap.size = k := by simpa [Value.ownBlock] using hk
    exact this.symm
theorem Sat.joinRow {α : Type} {d : Kd α} {e : Nat} {v : Value} {xs : List α} {w0 w w' : World} {L : List Asn} (h : Sat w0 w L) (h2 : Sat w w' (Row d e v xs :: [])) : Sat w0 w' (Row d e v xs :: L) := by
  obtain ⟨G, h1, _⟩ := h2.get
  exact h.made h2.below (Kd.R_mono h1 (fun _ _ => trivial))
theorem ldC {α : Type} {d : Kd α} {w0 w : World} {L : List Asn} {A : Option Addr} {n : Nat} {xs : List α} (h : Kd.C d w0 A n xs) (hs : Sat w0 w L) : Kd.C d w A n xs := Kd.C_below h hs.below
/-- x[:n:n]. -/
theorem clip_run {P : Program} {t e : TypeId} {i : TypeInfo} (hu0 : P.underlying t = some (.slice e)) (hi : P.info? e = some i) (A : Option Addr) (n c : Nat) (hc : n ≤ c) (W : World) : (Instr.slice t (.slice A n c) none (some (.int .i64 n)) (some (.int .i64 n))).run P W = .ok (.slice A n n) W := by
  have hel : P.elem t = e := by simp [Program.elem, hu0]
  have hu : P.underlying t = some (.slice (P.elem t)) := by rw [hel]; exact hu0
  have ha : (A.map fun x => x.add 0) = A := by cases A <;> simp [Addr.add]
  rw [run_slice_hm W t A n c hu .i64 .i64 n n (by omega) (by omega) (by omega), hel]
  simp [sizeOf, typeInfo, hi, sliced, Result.andThen, ha]
end Go.Proofs.Ytpjljhiohimgcaa.Sl
