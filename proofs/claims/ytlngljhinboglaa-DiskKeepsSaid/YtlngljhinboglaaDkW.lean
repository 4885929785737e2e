/- What the calls of a disk's inner functions come to: its changes, all bytes, a copy. -/
import Derived.Test.YtlngljhinboglaaDkS
import Derived.Test.YtlngljhinboglaaWTab
import Derived.Maps.RangeWalk
import Derived.Shelf.SlMaps.Clone
import Derived.WalkSpells
namespace Go.Proofs.Ytlngljhinboglaa.DkW
open Go.RowKit Go.WideMaps Go.ChangeMaps Go.MapKept Go.Maps Go.Lib Go.Proofs.YtlngljhinboglaaW.PrintWords Go.Proofs.YtlngljhinboglaaW.PrintLast Go.Proofs.YtlngljhinboglaaW.PrintMore Go.Proofs.Ytlngljhinboglaa.Sl Go.Proofs.Ytlngljhinboglaa.DkP Go.Proofs.Ytlngljhinboglaa.DkS
set_option linter.unusedVariables false
set_option linter.unusedSimpArgs false
section
variable {P : Program} {o : Oper} {a : Act} {w w' : World}
theorem append_run {s x : Operand} {t u : TypeId} {v xv v' : Value} (ho : o.op = .call { callee := .builtin .append, args := #[s, x], argTypes := #[t, u] }) (hs : a.eval s = v) (hx : a.eval x = xv) (hr : (Builtin.append_ #[t, u] o.type #[v, xv]).run P w = .ok v' w') :
    (execOp a.eval o).run P w = .ok (.value v') w' := by
  unfold execOp
  simp only [ho, resolve, invoke, builtin, Sem.run_bind, Sem.run_pure, Result.andThen_ok, List.map_toArray, List.map_cons, List.map_nil, hs, hx, hr]
theorem lookup_run {m x : Operand} {t : TypeId} {c : Bool} {mv kv v : Value} (ho : o.op = .lookup t m x c) (hm : a.eval m = mv) (hx : a.eval x = kv) (hr : (Instr.lookup t mv kv c).run P w = .ok v w') :
    (execOp a.eval o).run P w = .ok (.value v) w' := by
  simp [execOp, ho, hm, hx, hr, Result.andThen]
theorem update_run {m x y : Operand} {t : TypeId} {mv kv vv : Value} (ho : o.op = .mapUpdate t m x y) (hm : a.eval m = mv) (hx : a.eval x = kv) (hy : a.eval y = vv) (hr : (Instr.mapUpdate t mv kv vv).run P w = .ok () w') :
    (execOp a.eval o).run P w = .ok .skip w' := by
  simp [execOp, ho, hm, hx, hy, hr, Result.andThen]
end
section
variable {P : Program} {ops : Array Oper} {rest : List Oper} {o : Oper} {a : Act} {Q : Exit → Act → World → Prop} {w w' : World}
theorem wpList_update {m x y : Operand} {t : TypeId} {mv kv vv : Value} (hg : o.guard = none) (ho : o.op = .mapUpdate t m x y) (hm : a.eval m = mv) (hx : a.eval x = kv) (hy : a.eval y = vv) (hr : (Instr.mapUpdate t mv kv vv).run P w = .ok () w')
    (h : wpList P ops Q rest (a.put o.dst undef) w') : wpList P ops Q (o :: rest) a w := by
  refine wpList_plain hg fun K hK => ?_
  unfold Oper.wp
  rw [update_run ho hm hx hy hr]
  exact hK _ _ h
theorem wpList_delete {m x : Operand} {t k : TypeId} {mv kv : Value} (hg : o.guard = none) (ho : o.op = .call { callee := .builtin .delete, args := #[m, x], argTypes := #[t, k] }) (hm : a.eval m = mv) (hx : a.eval x = kv) (hr : (Builtin.delete_ #[t, k] o.type #[mv, kv]).run P w = .ok (.tuple #[]) w')
    (h : wpList P ops Q rest (a.put o.dst (.tuple #[])) w') : wpList P ops Q (o :: rest) a w := by
  refine wpList_plain hg fun K hK => ?_
  unfold Oper.wp
  simp [execOp, ho, resolve, invoke, builtin, hm, hx, hr, Result.andThen]
  exact hK _ _ h
end
theorem Clip_calls (w : World) (A : Option Addr) (n c : Nat) (hc : n ≤ c) (hA : A = none → n = 0 ∧ c = 0) :
    Calls Try.prog 31 #[.slice A n c] w fun e w' => e = .returned (.slice A n n) ∧ w' = w := by
  go_enter Try.func31, Try.ntmps31
  go_wp2
  go_ret
  exact ⟨rfl, rfl⟩
/-- A variable that a closure has caught. -/
def Str (x : Nat) (s : ByteArray) (w : World) : Prop := w.heap[x]? = some (.cells #[.string s] 9 (0, 0))
theorem Str.cell {x : Nat} {s : ByteArray} {w : World} (h : Str x s w) : w.cell? ⟨x, 0, none⟩ = some (.string s) := by
  unfold Str at h
  simp [World.cell?, h]
theorem Str.lt {x : Nat} {s : ByteArray} {w : World} (h : Str x s w) : x < w.heap.size := (Array.getElem?_eq_some_iff.1 h).1
theorem Str.below {x : Nat} {s : ByteArray} {w w' : World} (h : Str x s w) (hb : Below w.heap.size w w') : Str x s w' := (hb.block x h.lt).trans h
theorem Str.move {x : Nat} {s : ByteArray} {w w' : World} {b : Nat} {es : Array MapEntry} {clock : Nat} (h : Str x s w) (hb : w.heap[b]? = some (.map es clock)) (hw : ∀ k, k ≠ b → w'.heap[k]? = w.heap[k]?) : Str x s w' := (hw x (by
  rintro rfl
  unfold Str at h
  rw [hb] at h
  cases h)).trans h
theorem extract_list (s : ByteArray) (n : Nat) : (s.extract 0 n).data.toList = s.data.toList.take n := by
  rw [ByteArray.data_extract, Array.toList_extract, List.extract_eq_take_drop, List.drop_zero, Nat.sub_zero]
def Da.T0 : Bool × List (List Nat × List Nat) := (true, [([], []), ([], []), ([], []), ([], []), ([2, 3], [2, 3]), ([4], [4]), ([], []), ([], []), ([6, 7], [6, 7]), ([5, 8, 5], [5, 8]), ([0, 1, 9, 9, 0, 1, 2, 3, 4, 5, 6, 7, 8, 9], [0, 1, 9])])
def Da.B0 : List Nat := [0, 0, 0, 0, 12, 28, 0, 0, 192, 508, 1023]
theorem Da.tab0 : rtab .any (opsOf Try.f30 0) = Da.T0 := by kernel_rfl
theorem Da.bits0 : waitsOk Da.T0.2 Da.B0 = true := by kernel_rfl
set_option maxHeartbeats 4000000 in
set_option maxRecDepth 100000 in
theorem app_calls (w0 w : World) (L : List Asn) (b x y : Nat) (f : FS Cnt) (ms : List (Nat × FS Cnt)) (a s : ByteArray) (n : Nat) (hn : n ≤ s.size) (ha : a.size ≤ maxLen) (hf : f.length < 1000000) (hc : ((get (nm a) f).getD []).length + n ≤ 1099511627776) (hx : Str x a w) (hy : Str y s w) (h : Sat w0 w (Store ((b, f) :: ms) [] :: L)) :
    Calls Try.prog 30 #[.map (some b), .int .i64 n, .pointer (some ⟨x, 0, none⟩), .pointer (some ⟨y, 0, none⟩)] w fun e w' => e = .returned (.tuple #[]) ∧ Sat w0 w' (Store ((b, (Ch.app a s).go n f) :: ms) [] :: L) := by
  have x0 : w.drew.cell? ⟨x, 0, none⟩ = some (.string a) := hx.cell
  have y0 : w.drew.cell? ⟨y, 0, none⟩ = some (.string s) := hy.cell
  obtain ⟨v, hr, _, h1⟩ := Store.look h.drew (List.mem_cons_self ..) ha
  obtain ⟨F, hcv⟩ := Store.cont h1 (List.mem_cons_self ..)
  obtain ⟨A, c, rfl, hlc, hcm, hA⟩ := hcv.form
  have h2 := (Store.clip h1).2
  have hxs : (s.extract 0 n).size = n := by rw [ByteArray.size_extract]; omega
  have hm : maxLen = 9223372036854775807 := rfl
  obtain ⟨v', w1, hr1, h3, hb1⟩ := Store.append h2 (s.extract 0 n) 59 (by rw [hxs]; omega) (by rw [hxs]; omega)
  obtain ⟨w2, hr2, h4, _, _⟩ := Store.put h3 ha (by omega)
  obtain ⟨n1, hn1⟩ : ∃ n1, ((get (nm a) f).getD []).length = n1 := ⟨_, rfl⟩
  have hAn : A = none → n1 = 0 ∧ c = 0 := fun e => ⟨by have := hA e; omega, hA e⟩
  rw [hn1] at hr hr1 hlc
  have HR0 := Aside0.mk hr
  have HR1 := Aside0.mk hr1
  have x1 : w1.cell? ⟨x, 0, none⟩ = some (.string a) := (Str.below (w := w.drew) hx hb1).cell
  have y1 : w1.cell? ⟨y, 0, none⟩ = some (.string s) := (Str.below (w := w.drew) hy hb1).cell
  have HR2 := Aside0.mk hr2
  have HS := Aside0.mk (show Sat w0 w2 (Store ((b, (Ch.app a s).go n f) :: ms) [] :: L) from by
    have := Store.sub (ms' := (b, put (nm a) ((get (nm a) f).getD [] ++ (s.extract 0 n).data.toList) f) :: ms) (hs' := []) h4 (Store.nodup h4) (fun _ h => h) (fun _ h => by cases h)
    rw [extract_list] at this
    exact this)
  clear hr hr1 hr2 h h1 h2 h3 h4 hcv hc hf hb1 hn1 hA hxs hm ha hx hy
  go_enter Try.func30, Try.ntmps30
  refine start_ (n := 11) (S := fun w' => w'.cell? ⟨x, 0, none⟩ = some (.string a) ∧ w'.cell? ⟨y, 0, none⟩ = some (.string s)) (ds := [10]) #[false, false, false, false, false, false, false, false, false, false, false] (by kernel_rfl) rfl rfl ⟨x0, y0⟩ (fun hHeld => ?_)
  refine with_tabW Da.tab0 Da.bits0 (fun HT_ HW_ => ?_)
  refine pure_ (i := 0) (N := some 6) (v := ?_) (a' := ?_) #[true, false, false, false, false, false, false, false, false, false, false] rfl rfl (any_of HT_.out (by kernel_rfl)) (fun _ _ _ h => h) (Or.inl ⟨by rfl, ?_⟩) ?_ ?_
  rotate_left
  · intro w'
    go_simp
    with_reducible rfl
  rotate_left
  · simp only [Act.put, List.setIfInBounds_toArray, List.set_cons_zero, List.set_cons_succ, i64_w, i32_w]
    rfl
  refine pure_ (i := 2) (N := some 8) (v := ?_) (a' := ?_) #[true, false, true, false, false, false, false, false, false, false, false] rfl rfl (any_of HT_.out (by kernel_rfl)) (fun _ _ _ h => h) (Or.inl ⟨by rfl, ?_⟩) ?_ ?_
  rotate_left
  · intro w'
    go_simp
    with_reducible rfl
  rotate_left
  · simp only [Act.put, List.setIfInBounds_toArray, List.set_cons_zero, List.set_cons_succ, i64_w, i32_w]
    rfl
  refine pure_ (i := 7) (N := some 13) (v := ?_) (a' := ?_) #[true, false, true, false, false, false, false, true, false, false, false] rfl rfl (any_of HT_.out (by kernel_rfl)) (fun _ _ _ h => h) (Or.inl ⟨by rfl, ?_⟩) ?_ ?_
  rotate_left
  · intro w'
    go_simp
    with_reducible rfl
  rotate_left
  · simp only [Act.put, List.setIfInBounds_toArray, List.set_cons_zero, List.set_cons_succ, i64_w, i32_w]
    rfl
  refine take_ (i := 1) (N := some 7) (v := ?_) (a' := ?_) #[true, true, true, false, false, false, false, true, false, false, false] rfl rfl (take_ofW HT_.out HW_.out (by kernel_rfl)) (fun _ _ _ h => h) (Or.inl ⟨by rfl, ?_⟩) hHeld ?_ ?_
  rotate_left
  · rintro w' ⟨s0, s1⟩
    go_simp
    with_reducible rfl
  rotate_left
  · simp only [Act.put, List.setIfInBounds_toArray, List.set_cons_zero, List.set_cons_succ, i64_w, i32_w]
    rfl
  refine take_ (i := 3) (N := some 9) (v := ?_) (a' := ?_) #[true, true, true, true, false, false, false, true, false, false, false] rfl rfl (take_ofW HT_.out HW_.out (by kernel_rfl)) (fun _ _ _ h => h) (Or.inl ⟨by rfl, ?_⟩) hHeld ?_ ?_
  rotate_left
  · rintro w' ⟨s0, s1⟩
    go_simp
    with_reducible rfl
  rotate_left
  · simp only [Act.put, List.setIfInBounds_toArray, List.set_cons_zero, List.set_cons_succ, i64_w, i32_w]
    rfl
  refine take_ (i := 6) (N := some 12) (v := ?_) (a' := ?_) #[true, true, true, true, false, false, true, true, false, false, false] rfl rfl (take_ofW HT_.out HW_.out (by kernel_rfl)) (fun _ _ _ h => h) (Or.inl ⟨by rfl, ?_⟩) hHeld ?_ ?_
  rotate_left
  · rintro w' ⟨s0, s1⟩
    go_simp
    with_reducible rfl
  rotate_left
  · simp only [Act.put, List.setIfInBounds_toArray, List.set_cons_zero, List.set_cons_succ, i64_w, i32_w]
    rfl
  refine pure_ (i := 8) (N := some 14) (v := ?_) (a' := ?_) #[true, true, true, true, false, false, true, true, true, false, false] rfl rfl (any_of HT_.out (by kernel_rfl)) (fun _ _ _ h => h) (Or.inl ⟨by rfl, ?_⟩) ?_ ?_
  rotate_left
  · intro w'
    go_simp
    with_reducible rfl
  rotate_left
  · simp only [Act.put, List.setIfInBounds_toArray, List.set_cons_zero, List.set_cons_succ, i64_w, i32_w]
    rfl
  refine one_ (i := 4) (N := some 10) #[true, true, true, true, true, false, true, true, true, false, false] rfl rfl (one_of HT_.out (by kernel_rfl)) (by decide) (fun K hK => ?_)
  refine value_ (by rfl) rfl (lookup_run rfl rfl rfl HR0.out) ?_
  refine hK.out _ _ ⟨x0, y0⟩ (fun hHeld => ?_)
  clear hK K
  refine norm_ (a' := ?_) ?_ ?_
  rotate_left
  · show Act.put _ (some 10) _ = _
    simp only [Act.put, List.setIfInBounds_toArray, List.set_cons_zero, List.set_cons_succ, i64_w, i32_w]
    rfl
  refine one_ (i := 5) (N := some 11) #[true, true, true, true, true, true, true, true, true, false, false] rfl rfl (one_of HT_.out (by kernel_rfl)) (by decide) (fun K hK => ?_)
  refine goes_ Try.func31 (by kernel_rfl) rfl #[.slice A n1 c] (by rfl) rfl rfl (by simp only [List.map_toArray, List.map_cons, List.map_nil]; rfl) ?_
  with_reducible refine (Clip_calls _ A n1 c hlc hAn).mono ?_
  rintro e w3 ⟨rfl, rfl⟩
  refine ⟨_, rfl, ?_⟩
  refine hK.out _ _ ⟨x0, y0⟩ (fun hHeld => ?_)
  clear hK K
  refine norm_ (a' := ?_) ?_ ?_
  rotate_left
  · show Act.put _ (some 11) _ = _
    simp only [Act.put, List.setIfInBounds_toArray, List.set_cons_zero, List.set_cons_succ, i64_w, i32_w]
    rfl
  refine one_ (i := 9) (N := some 15) #[true, true, true, true, true, true, true, true, true, true, false] rfl rfl (one_of HT_.out (by kernel_rfl)) (by decide) (fun K hK => ?_)
  refine value_ (by rfl) rfl (append_run rfl rfl rfl HR1.out) ?_
  refine hK.out _ _ ⟨x1, y1⟩ (fun hHeld => ?_)
  clear hK K
  refine norm_ (a' := ?_) ?_ ?_
  rotate_left
  · show Act.put _ (some 15) _ = _
    simp only [Act.put, List.setIfInBounds_toArray, List.set_cons_zero, List.set_cons_succ, i64_w, i32_w]
    rfl
  refine last_ (i := 10) (N := none) #[true, true, true, true, true, true, true, true, true, true, true] rfl rfl (one_of HT_.out (by kernel_rfl)) (by decide) (fun K hK => ?_)
  refine skip_ (by rfl) rfl (update_run rfl rfl rfl rfl HR2.out) ?_
  refine hK.out _ _ ?_
  clear hK K
  refine done_ (done_of HT_.out (by kernel_rfl)) ?_
  go_wp2
  go_end0
  exact ⟨rfl, HS.out⟩
end Go.Proofs.Ytlngljhinboglaa.DkW
