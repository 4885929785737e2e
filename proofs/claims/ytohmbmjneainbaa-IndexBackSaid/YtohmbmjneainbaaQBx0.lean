/- What functions of the translation come to, each as a Lean function, and a proof that the call comes to just that; or a law's row, out of its plain law. Written by mp.py, a program of this session, which runs the printer of the kit with stand-in bodies for some library functions. -/
import Derived.Test.YtohmbmjneainbaaProg
import Derived.Below
import Derived.Deep.Draws
import Derived.Deep.AppendLies
import Derived.Maps.AppendAt
import Derived.OwnWalk
import Derived.Laws.BytesArg
import Derived.Laws.MakeOwn
import Derived.Laws.OwnMore
import Derived.Deep.OwnRows
import Derived.Tactics
import Derived.Lib.ConvBytes
import Derived.Laws.Slices
import Derived.WalkKit
import Derived.KernelRfl
import Derived.RowKit3
import Derived.Deep.LoopGhost
import Derived.Deep.QuietTactic
import Derived.BigQuiet
import Derived.WideLaws
import Derived.Deep.DeepCutAuto
import Derived.Deep.CutBlock
import Derived.Deep.RegionHeld3
import Derived.Laws.Rows
import Derived.Lib.AppendStr
import Derived.ArgAppend
import Derived.Laws.IdiomCopy
import Derived.OrdersHeld
import Derived.Laws.BitsLemmas
import Derived.RowKit
import Derived.Lib.SliceRun
import Derived.Test.YtohmbmjneainbaaWWords
import Derived.Test.YtohmbmjneainbaaWLast
import Derived.Test.YtohmbmjneainbaaWTab
import Derived.Test.YtohmbmjneainbaaWFour
import Derived.Test.YtohmbmjneainbaaWQPut
import Derived.Test.YtohmbmjneainbaaWApart
import Derived.Test.YtohmbmjneainbaaWArr
import Derived.Test.YtohmbmjneainbaaWZeros
import Derived.Test.YtohmbmjneainbaaWFoot
import Derived.Test.YtohmbmjneainbaaWKept
import Derived.Test.YtohmbmjneainbaaWShare
import Derived.Test.YtohmbmjneainbaaWN
import Derived.Test.YtohmbmjneainbaaWFootNe
import Derived.Test.YtohmbmjneainbaaWAt
import Derived.Test.YtohmbmjneainbaaWEqStruct
import Derived.Test.YtohmbmjneainbaaWRepsOne
import Derived.Test.YtohmbmjneainbaaWInv
import Derived.Test.YtohmbmjneainbaaWInvWords
import Derived.Test.YtohmbmjneainbaaWGuard
import Derived.Test.YtohmbmjneainbaaWNEv
import Derived.Test.YtohmbmjneainbaaWMore
namespace Go.Proofs.Ytohmbmjneainbaa.QB
open Go.RowKit Go.Proofs.YtohmbmjneainbaaW.PrintWords Go.Proofs.YtohmbmjneainbaaW.PrintLast Go.Proofs.YtohmbmjneainbaaW.PrintMore
attribute [local go_sem] max2_int min2_int max_two min_two max_three min_three max_four min_four   -- for this text's walks alone
set_option linter.unusedVariables false
set_option linter.unusedSimpArgs false



def errW : Option Int → Value
  | none => .nilIface
  | some c => .iface 0 (.int .i64 c)
theorem errW_none : errW none = .nilIface := rfl
theorem errW_some (c : Int) : errW (some c) = .iface 0 (.int .i64 c) := rfl

theorem info5 : (Try.prog.info? 5).map (fun i => (i.zero, i.size, i.bytes)) = some (some (.int .u8 0), 1, 1) := by kernel_rfl
theorem info42 : (Try.prog.info? 42).map (fun i => (i.zero, i.size, i.bytes)) = some (some (.agg #[(.string ⟨#[]⟩), (.int .i64 0), (.int .i64 0), (.int .u32 0)]), 4, 40) := by kernel_rfl
theorem info49 : (Try.prog.info? 49).map (fun i => (i.zero, i.size, i.bytes)) = some (some (.agg #[(.string ⟨#[]⟩), (.int .i64 0), (.int .i64 0), (.int .u32 0)]), 4, 40) := by kernel_rfl
-- the values' own types
/-! #### struct type 42 -/
structure S42 where
  f0 : ByteArray
  f1 : Int
  f2 : Int
  f3 : Int
def z42 : S42 := ⟨(⟨#[]⟩ : ByteArray), (0 : Int), (0 : Int), (0 : Int)⟩
def k42 : Kd S42 := Kd.iso (Kd.pair Kd.string (Kd.pair (Kd.int .i64) (Kd.pair (Kd.int .i64) (Kd.int .u32)))) (fun x : S42 => (x.f0, x.f1, x.f2, x.f3))
theorem k42_heap : Kd.Heap k42 := Kd.heap_iso _ (Kd.heap_pair Kd.heap_string (Kd.heap_pair (Kd.heap_int .i64) (Kd.heap_pair (Kd.heap_int .i64) (Kd.heap_int .u32))))
theorem k42_open {w : World} {x : S42} {cs : List Value} (h : k42.K w x cs) : cs = [.string x.f0, .int .i64 x.f1, .int .i64 x.f2, .int .u32 x.f3] := by
  obtain ⟨_, _, rfl, rfl, ⟨_, _, rfl, rfl, ⟨_, _, rfl, rfl, rfl⟩⟩⟩ := h
  exact rfl
theorem k42_openM {w : World} {base : Nat} {ok : Nat → Prop} {x : S42} {cs : List Value} (h : k42.M w base ok x cs) : cs = [.string x.f0, .int .i64 x.f1, .int .i64 x.f2, .int .u32 x.f3] := by
  obtain ⟨_, _, rfl, rfl, ⟨_, _, rfl, rfl, ⟨_, _, rfl, rfl, rfl⟩⟩⟩ := h
  exact rfl
theorem k42_mk (w : World) (x : S42)  : k42.K w x [.string x.f0, .int .i64 x.f1, .int .i64 x.f2, .int .u32 x.f3] := ⟨[.string x.f0], [.int .i64 x.f1, .int .i64 x.f2, .int .u32 x.f3], rfl, rfl, ⟨[.int .i64 x.f1], [.int .i64 x.f2, .int .u32 x.f3], rfl, rfl, ⟨[.int .i64 x.f2], [.int .u32 x.f3], rfl, rfl, rfl⟩⟩⟩
theorem k42_mkM (w : World) (base : Nat) (ok : Nat → Prop) (x : S42)  : k42.M w base ok x [.string x.f0, .int .i64 x.f1, .int .i64 x.f2, .int .u32 x.f3] := ⟨[.string x.f0], [.int .i64 x.f1, .int .i64 x.f2, .int .u32 x.f3], rfl, rfl, ⟨[.int .i64 x.f1], [.int .i64 x.f2, .int .u32 x.f3], rfl, rfl, ⟨[.int .i64 x.f2], [.int .u32 x.f3], rfl, rfl, rfl⟩⟩⟩
theorem k42_mkF (W : World) (ok : Nat → Prop) (x : S42) : Kd.FK k42 W ok x [.string x.f0, .int .i64 x.f1, .int .i64 x.f2, .int .u32 x.f3] := fun W2 _ => k42_mk W2 x
def rd_T42 (xs : List S42) (i : Int) : S42 := xs.getD i.toNat z42
theorem at_T42 {w : World} {A : Option Addr} {n : Nat} {xs : List S42} (h : Kd.C k42 w A n xs) (i : Int) (h0 : 0 ≤ i) (h1 : i < n) : ∃ ad , A = some ad ∧ w.cell? (ad.add (i.toNat * 4)) = some (.string (rd_T42 xs i).f0) ∧ w.cell? ⟨(ad.add (i.toNat * 4)).block, (ad.add (i.toNat * 4)).off + 1, none⟩ = some (.int .i64 (rd_T42 xs i).f1) ∧ w.cell? ⟨(ad.add (i.toNat * 4)).block, (ad.add (i.toNat * 4)).off + 2, none⟩ = some (.int .i64 (rd_T42 xs i).f2) ∧ w.cell? ⟨(ad.add (i.toNat * 4)).block, (ad.add (i.toNat * 4)).off + 3, none⟩ = some (.int .u32 (rd_T42 xs i).f3) := by
  obtain ⟨ad, c, e, _, hK, hc0⟩ := Kd.C_get h z42 i h0 h1
  have hc : ∀ j u, c[j]? = some u → w.cell? (ad.add (i.toNat * 4 + j)) = some u := hc0
  obtain rfl := k42_open hK
  exact ⟨ad, e, hc 0 _ rfl, by rw [← add_field _ _ 1 (by omega)]; exact hc 1 _ rfl, by rw [← add_field _ _ 2 (by omega)]; exact hc 2 _ rfl, by rw [← add_field _ _ 3 (by omega)]; exact hc 3 _ rfl⟩

/-! #### struct type 49 -/
structure S49 where
  f0 : ByteArray
  f1 : Int
  f2 : Int
  f3 : Int
def z49 : S49 := ⟨(⟨#[]⟩ : ByteArray), (0 : Int), (0 : Int), (0 : Int)⟩
def k49 : Kd S49 := Kd.iso (Kd.pair Kd.string (Kd.pair (Kd.int .i64) (Kd.pair (Kd.int .i64) (Kd.int .u32)))) (fun x : S49 => (x.f0, x.f1, x.f2, x.f3))
theorem k49_heap : Kd.Heap k49 := Kd.heap_iso _ (Kd.heap_pair Kd.heap_string (Kd.heap_pair (Kd.heap_int .i64) (Kd.heap_pair (Kd.heap_int .i64) (Kd.heap_int .u32))))
theorem k49_open {w : World} {x : S49} {cs : List Value} (h : k49.K w x cs) : cs = [.string x.f0, .int .i64 x.f1, .int .i64 x.f2, .int .u32 x.f3] := by
  obtain ⟨_, _, rfl, rfl, ⟨_, _, rfl, rfl, ⟨_, _, rfl, rfl, rfl⟩⟩⟩ := h
  exact rfl
theorem k49_openM {w : World} {base : Nat} {ok : Nat → Prop} {x : S49} {cs : List Value} (h : k49.M w base ok x cs) : cs = [.string x.f0, .int .i64 x.f1, .int .i64 x.f2, .int .u32 x.f3] := by
  obtain ⟨_, _, rfl, rfl, ⟨_, _, rfl, rfl, ⟨_, _, rfl, rfl, rfl⟩⟩⟩ := h
  exact rfl
theorem k49_mk (w : World) (x : S49)  : k49.K w x [.string x.f0, .int .i64 x.f1, .int .i64 x.f2, .int .u32 x.f3] := ⟨[.string x.f0], [.int .i64 x.f1, .int .i64 x.f2, .int .u32 x.f3], rfl, rfl, ⟨[.int .i64 x.f1], [.int .i64 x.f2, .int .u32 x.f3], rfl, rfl, ⟨[.int .i64 x.f2], [.int .u32 x.f3], rfl, rfl, rfl⟩⟩⟩
theorem k49_mkM (w : World) (base : Nat) (ok : Nat → Prop) (x : S49)  : k49.M w base ok x [.string x.f0, .int .i64 x.f1, .int .i64 x.f2, .int .u32 x.f3] := ⟨[.string x.f0], [.int .i64 x.f1, .int .i64 x.f2, .int .u32 x.f3], rfl, rfl, ⟨[.int .i64 x.f1], [.int .i64 x.f2, .int .u32 x.f3], rfl, rfl, ⟨[.int .i64 x.f2], [.int .u32 x.f3], rfl, rfl, rfl⟩⟩⟩
theorem k49_mkF (W : World) (ok : Nat → Prop) (x : S49) : Kd.FK k49 W ok x [.string x.f0, .int .i64 x.f1, .int .i64 x.f2, .int .u32 x.f3] := fun W2 _ => k49_mk W2 x
def rd_T49 (xs : List S49) (i : Int) : S49 := xs.getD i.toNat z49
theorem at_T49 {w : World} {A : Option Addr} {n : Nat} {xs : List S49} (h : Kd.C k49 w A n xs) (i : Int) (h0 : 0 ≤ i) (h1 : i < n) : ∃ ad , A = some ad ∧ w.cell? (ad.add (i.toNat * 4)) = some (.string (rd_T49 xs i).f0) ∧ w.cell? ⟨(ad.add (i.toNat * 4)).block, (ad.add (i.toNat * 4)).off + 1, none⟩ = some (.int .i64 (rd_T49 xs i).f1) ∧ w.cell? ⟨(ad.add (i.toNat * 4)).block, (ad.add (i.toNat * 4)).off + 2, none⟩ = some (.int .i64 (rd_T49 xs i).f2) ∧ w.cell? ⟨(ad.add (i.toNat * 4)).block, (ad.add (i.toNat * 4)).off + 3, none⟩ = some (.int .u32 (rd_T49 xs i).f3) := by
  obtain ⟨ad, c, e, _, hK, hc0⟩ := Kd.C_get h z49 i h0 h1
  have hc : ∀ j u, c[j]? = some u → w.cell? (ad.add (i.toNat * 4 + j)) = some u := hc0
  obtain rfl := k49_open hK
  exact ⟨ad, e, hc 0 _ rfl, by rw [← add_field _ _ 1 (by omega)]; exact hc 1 _ rfl, by rw [← add_field _ _ 2 (by omega)]; exact hc 2 _ rfl, by rw [← add_field _ _ 3 (by omega)]; exact hc 3 _ rfl⟩

end Go.Proofs.Ytohmbmjneainbaa.QB
