/- The law CommitlogBytes: what its printed function answers. The law CommitlogBytes: its call's contract; how a record that comes in is opened. -/
import Derived.Test.YtnkcdopjhjmdnaaDcS
import Derived.Test.YtnkcdopjhjmdnaaQBx13
import Derived.Test.YtnkcdopjhjmdnaaOp
namespace Go.Proofs.Ytnkcdopjhjmdnaa.DcQ
open Go.RowKit Go.Proofs.YtnkcdopjhjmdnaaW.PrintWords Go.Proofs.YtnkcdopjhjmdnaaW.PrintLast Go.Proofs.YtnkcdopjhjmdnaaW.PrintMore Go.Proofs.Ytnkcdopjhjmdnaa.QB Go.Proofs.Ytnkcdopjhjmdnaa.Uv Go.Proofs.Ytnkcdopjhjmdnaa.UvP Go.Proofs.Ytnkcdopjhjmdnaa.CeW Go.Proofs.Ytnkcdopjhjmdnaa.CfW Go.Proofs.Ytnkcdopjhjmdnaa.CpP Go.Proofs.Ytnkcdopjhjmdnaa.CoW Go.Proofs.Ytnkcdopjhjmdnaa.DcP
set_option linter.unusedVariables false
set_option linter.unusedSimpArgs false

theorem none_nil : None_ [] := fun x t hg e => by
  have h := congrArg List.length e
  have := encS_pos x
  rw [List.length_append, List.length_nil] at h
  omega
theorem D_nil : D [] = ([], 0) := dec_none (fun x hx => by cases hx) none_nil _
theorem D_snoc {b : List Int} (hb : Bytes b) {x : S32} (hx : GoodS x) : D (b.take (D b).2 ++ encS x) = ((D b).1 ++ [x], (D b).2 + (encS x).length) := by
  have hbx : Bytes (encS x) := bytes_encR _ _ _ _ _
  rw [D_take hb hbx]
  have h := D_enc (l := [x]) (fun y hy => by rw [List.mem_singleton] at hy; subst hy; exact hx) (t := []) (fun y hy => by cases hy)
  rw [List.append_nil, D_nil] at h
  have e : encA [x] = encS x := by simp [encA]
  rw [e] at h
  rw [h]
  simp
theorem bytes_j1 {k : Nat} (hk : 100000 < k) {b : List Int} (hb : Bytes b) (hbl : b.length ≤ 16384) {n : Nat} {id : ByteArray} {m v s : Nat} (hg : DcP.Good n id m v s) :
    thermographlaw09_CommitlogBytes.j1 (k + 1) b (encR n id m v s) 0 (D b).1 ((D b).2 : Int) false (n : Int) id (m : Int) (v : Int) (s : Int) = some true := by
  have q0 := D_len hb
  have hx : GoodS (recOf n id m v s) := ⟨_, _, _, _, _, hg, rfl⟩
  have hd := D_snoc hb hx
  rw [encS_rec] at hd
  have hel := encR_length n id m v s
  have hbo := body_length hg
  have u1 : (uv (bodyR n id m v s).length).length ≤ 10 := uv_length10 (by omega)
  have hz : Bytes (b.take (D b).2 ++ encR n id m v s) := bytes_app (Bytes.take hb _) (bytes_encR _ _ _ _ _)
  have htl : (b.take (D b).2).length = (D b).2 := by rw [List.length_take]; omega
  have hzl : (b.take (D b).2 ++ encR n id m v s).length = (D b).2 + (encR n id m v s).length := by rw [List.length_append, htl]
  have p := Decode_f hz (by omega)
  rw [hd] at p
  have c1 : (0 : Int) ≤ ((D b).2 : Int) := Int.natCast_nonneg _
  have c2 : ((D b).2 : Int) ≤ (b.length : Int) := by omega
  have c3 : ([] : List Int).length + (b.take (D b).2).length < 140737488355328 := by rw [htl, List.length_nil]; omega
  have c4 : (b.take (D b).2).length + (encR n id m v s).length < 140737488355328 := by rw [htl]; omega
  have e1 : wrap64 (((D b).1.length : Int) + 1) = (((D b).1.length + 1 : Nat) : Int) := by unfold wrap64; omega
  have e2 : wrap64 ((((D b).1 ++ [recOf n id m v s]).length : Int) - 1) = ((D b).1.length : Int) := by
    rw [List.length_append, List.length_singleton]; clear e1; unfold wrap64; omega
  have c5 : (((D b).1 ++ [recOf n id m v s]).length : Int) = (((D b).1.length + 1 : Nat) : Int) := by rw [List.length_append, List.length_singleton]
  have c6 : (0 : Int) ≤ ((D b).1.length : Int) := Int.natCast_nonneg _
  have c7 : ((D b).1.length : Int) < (((D b).1 ++ [recOf n id m v s]).length : Int) := by rw [List.length_append, List.length_singleton]; clear e1 e2; omega
  have hr : rd_T32 ((D b).1 ++ [recOf n id m v s]) ((D b).1.length : Int) = recOf n id m v s := by
    unfold rd_T32
    rw [Int.toNat_natCast, List.getD_eq_getElem?_getD, List.getElem?_append_right (Nat.le_refl _), Nat.sub_self]
    rfl
  have c8 : (((D b).2 + (encR n id m v s).length : Nat) : Int) = ((b.take (D b).2 ++ encR n id m v s).length : Int) := by rw [hzl]
  rw [thermographlaw09_CommitlogBytes.j1, if_neg (by decide), if_pos rfl]
  simp only [Option.bind_some, List.nil_append, Int.toNat_natCast]
  rw [if_pos c1, if_pos c2, if_pos c3]
  try simp only [Option.bind_some]
  rw [if_pos c4, p]
  simp only [Option.bind_some]
  rw [if_pos c8, e1, if_pos c5, e2, if_pos c6, if_pos c7, hr]
  simp [recOf]
theorem CommitlogBytes_pure {k : Nat} (hk : 100000 < k) (hk2 : k ≤ 800000) (sp : Int) (id : ByteArray) (t v s : Int) (hv : 0 ≤ v ∧ v < 18446744073709551616) (hs : 0 ≤ s ∧ s < 18446744073709551616) {b : List Int} (hb : Bytes b) :
    thermographlaw09_CommitlogBytes.f (k + 2 + 1) sp id t v s b = some true := by
  unfold thermographlaw09_CommitlogBytes.f
  by_cases z0 : (b.length : Int) > 16384
  · rw [if_pos z0, thermographlaw09_CommitlogBytes.j0, if_pos rfl]
  rw [if_neg z0]
  by_cases z1 : (id.size : Int) > 16384
  · rw [decide_eq_true z1, thermographlaw09_CommitlogBytes.j0, if_pos rfl]
  rw [decide_eq_false z1, thermographlaw09_CommitlogBytes.j0, if_neg (by decide)]
  have q0 := D_len hb
  have p0 := Decode_f hb (by omega)
  have p1 := ref_Decode_f hb (by omega) (k := k + 2) (by omega)
  have p2 := ref_Encode_f (sp := sp) (id := id) (t := t) hv hs (k := k) (by omega) (by omega)
  have p3 := same_f (l := (D b).1) (by omega) (k := k + 2) (by omega)
  rw [commitlog_Encode.f_eq hv hs]
  simp only [Option.bind_some]
  rw [p2]
  simp only [Option.bind_some]
  rw [p0]
  simp only [Option.bind_some]
  rw [p1]
  simp only [Option.bind_some, if_true]
  rw [p3]
  simp only [Option.bind_some, Bool.not_true]
  by_cases hz : (encE sp id t v s).2 = 0
  · obtain ⟨v, rfl⟩ : ∃ n : Nat, v = (n : Int) := ⟨v.toNat, by omega⟩
    obtain ⟨s, rfl⟩ : ∃ n : Nat, s = (n : Int) := ⟨s.toNat, by omega⟩
    have hsp : ∃ n m : Nat, sp = (n : Int) ∧ t = (m : Int) := by
      unfold encE at hz
      split at hz
      · cases hz
      · exact ⟨sp.toNat, t.toNat, by omega, by omega⟩
    obtain ⟨n, m, rfl, rfl⟩ := hsp
    have hg := encE_zero (by omega) (by omega) hz
    rw [encE_good hg]
    simp only
    exact bytes_j1 (k := k + 1) (by omega) hb (by omega) hg
  · rw [thermographlaw09_CommitlogBytes.j1, if_neg (by decide), if_neg hz]
end Go.Proofs.Ytnkcdopjhjmdnaa.DcQ
namespace Go.Proofs.Ytnkcdopjhjmdnaa.DcO
open Go.RowKit Go.Proofs.YtnkcdopjhjmdnaaW.PrintWords Go.Proofs.YtnkcdopjhjmdnaaW.PrintLast Go.Proofs.YtnkcdopjhjmdnaaW.PrintMore Go.Proofs.Ytnkcdopjhjmdnaa.QB Go.Proofs.Ytnkcdopjhjmdnaa.Uv Go.Proofs.Ytnkcdopjhjmdnaa.UvP Go.Proofs.Ytnkcdopjhjmdnaa.Op Go.Proofs.Ytnkcdopjhjmdnaa.DcQ
set_option linter.unusedVariables false
set_option linter.unusedSimpArgs false

def okP (x : S30) : Prop := (Lit.int .i64 x.f0).wf = true ∧ (Lit.int .u64 x.f1).wf = true ∧ (Lit.int .u64 x.f2).wf = true
def okR (x : S32) : Prop := (Lit.int .i64 x.f0).wf = true ∧ x.f1.size ≤ maxLen ∧ okP x.f2
theorem opens_point : Opens Try.prog 30 k30 okP :=
  opens_iso (g := fun p : Int × Int × Int => (⟨p.1, p.2.1, p.2.2⟩ : S30)) (fun _ => rfl)
    (opens_struct Try.underlying30 (by kernel_rfl) (opensFs_cons rfl (by kernel_rfl) (opens_int Try.underlying3) (opensFs_cons rfl (by kernel_rfl) (opens_int Try.underlying28) (opensFs_last rfl (by kernel_rfl) (opens_int Try.underlying28)))))
theorem opens_rec : Opens Try.prog 32 k32 okR :=
  opens_iso (g := fun p : Int × ByteArray × S30 => (⟨p.1, p.2.1, p.2.2⟩ : S32)) (fun _ => rfl)
    (opens_struct Try.underlying32 (by kernel_rfl) (opensFs_cons rfl (by kernel_rfl) (opens_int Try.underlying3) (opensFs_cons rfl (by kernel_rfl) (opens_string Try.underlying9) (opensFs_last rfl (by kernel_rfl) opens_point))))
theorem opens_recs : Opens Try.prog 23 (Kd.slice 32 k32) (fun l => ∀ x ∈ l, okR x) :=
  opens_slice Try.underlying23 (by kernel_rfl) opens_rec
theorem wf_u64 {x : Int} (h : (Lit.int .u64 x).wf = true) : 0 ≤ x ∧ x < 18446744073709551616 := by
  simp [Lit.wf, IntKind.min, IntKind.max, IntKind.signed, IntKind.bits] at h
  omega
theorem CommitlogBytes_calls (W : World) (cs0 : Array Value) (x0 : S32) (z0 : k32.K W x0 (Value.agg cs0).cells.toList) (w0 : okR x0)
    (a1 : Option Addr) (cap1 : Nat) (l1 : List Int) (hc1 : l1.length ≤ cap1) (hr1 : Kd.C (Kd.int .u8) W a1 l1.length l1) (hw1 : ∀ x ∈ l1, (Lit.int .u8 x).wf = true) (hs1 : l1.length * 1 ≤ 140737488351232) :
    Calls Try.prog 4 #[.agg cs0, .slice a1 l1.length cap1] W fun e w' => e = .returned (.bool true) ∧ Below W.heap.size W w' := by
  have hcs : cs0 = #[.int .i64 x0.f0, .string x0.f1, .int .i64 x0.f2.f0, .int .u64 x0.f2.f1, .int .u64 x0.f2.f2] := by
    have h := k32_open z0
    have h2 : cs0.toList = [.int .i64 x0.f0, .string x0.f1, .int .i64 x0.f2.f0, .int .u64 x0.f2.f1, .int .u64 x0.f2.f2] := h
    rw [← Array.toArray_toList (xs := cs0), h2]
  subst hcs
  exact thermographlaw09_CommitlogBytes.calls (700000 + 2 + 1) _ _ _ _ _ a1 cap1 l1 true W hr1 hc1 (CommitlogBytes_pure (by omega) (by omega) x0.f0 x0.f1 x0.f2.f0 x0.f2.f1 x0.f2.f2 (wf_u64 w0.2.2.2.1) (wf_u64 w0.2.2.2.2) (bytes_of hw1))
end Go.Proofs.Ytnkcdopjhjmdnaa.DcO
