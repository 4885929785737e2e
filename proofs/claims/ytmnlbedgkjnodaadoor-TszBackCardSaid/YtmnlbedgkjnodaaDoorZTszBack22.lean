/- The law TszBack, as a statement on lists, and its call.
   The rows' premise on the two package-level variables, told as cells; and a start that meets it. -/
import Derived.Test.YtmnlbedgkjnodaaDoorZTszBack21
import Derived.Test.YtmnlbedgkjnodaaDoorRows
import Derived.Test.YtmnlbedgkjnodaaDoorZTszBack7
import Derived.Lay
import Derived.LaidMore
import Derived.OpenShut
import Derived.ProofKit
namespace Go.Proofs.YtmnlbedgkjnodaaDoor.TbT
open Go.RowKit Go.Proofs.YtmnlbedgkjnodaaDoorW.PrintWords Go.Proofs.YtmnlbedgkjnodaaDoorW.PrintLast Go.Proofs.YtmnlbedgkjnodaaDoorW.PrintMore Go.Proofs.YtmnlbedgkjnodaaDoor.QB Go.Proofs.YtmnlbedgkjnodaaDoor.Bt Go.Proofs.YtmnlbedgkjnodaaDoor.TzP Go.Proofs.YtmnlbedgkjnodaaDoor.TzW Go.Proofs.YtmnlbedgkjnodaaDoor.TeP Go.Proofs.YtmnlbedgkjnodaaDoor.TeW Go.Proofs.YtmnlbedgkjnodaaDoor.TdP Go.Proofs.YtmnlbedgkjnodaaDoor.TdW Go.Proofs.YtmnlbedgkjnodaaDoor.TeK Go.Proofs.YtmnlbedgkjnodaaDoor.TdS
set_option linter.unusedVariables false
set_option linter.unusedSimpArgs false
theorem TszBack_f {l : List Pt} (hok : OkL l) : thermographlaw05_TszBack.f 20000 l = some true := by
  unfold thermographlaw05_TszBack.f
  by_cases hb : (l.length : Int) > 4096
  · rw [if_pos hb]
  rw [if_neg hb, tsz_Encode.f_eq (by omega) hok]
  simp only [Option.bind_some]
  rw [ref_check_f (by omega) (by omega)]
  simp only [Option.bind_some]
  by_cases hk : checkF l = 0
  · rw [encT_ok hk, hk]
    simp only
    rw [if_pos trivial, show 20000 = 19999 + 1 from rfl, thermographlaw05_TszBack.j0, if_neg (by simp), tsz_dec hk hok]
    simp only [Option.bind_some]
    rw [if_pos trivial, same_refl (by omega) (by omega)]
    rfl
  · rw [encT_bad hk]
    simp only
    rw [if_pos trivial, show 20000 = 19999 + 1 from rfl, thermographlaw05_TszBack.j0, if_pos (bne_iff_ne.2 hk), beq_self_eq_true]
theorem TszBack_calls (W : World) (a0 : Option Addr) (cap0 : Nat) (l0 : List Pt) (hc0 : l0.length ≤ cap0) (hr0 : Kd.C k33 W a0 l0.length l0) (hw0 : OkL l0) (_hs0 : l0.length * 24 ≤ 140737488351232) (hL : Ld.LaidW W) :
    Calls Tryd.prog 9 #[.slice a0 l0.length cap0] W fun e w' => e = .returned (.bool true) ∧ Below W.heap.size W w' :=
  thermographlaw05_TszBack.calls 20000 a0 cap0 l0 true W hr0 hc0 (TszBack_f hw0) hL
end Go.Proofs.YtmnlbedgkjnodaaDoor.TbT
namespace Go.Proofs.YtmnlbedgkjnodaaDoor.Ld
open Go.ChangeShapes Go.WideShapes Go.ChangeAt Go.RowKit
set_option linter.unusedVariables false
def laid : List (String × DataW Unit) := [("math/bits.deBruijn64tab", Rows.laid_math_bits_deBruijn64tab), ("thermograph/tsz.none", Rows.laid_thermograph_tsz_none)]
theorem tab_cell {P : Program} {W : World} {cs : Array Value} {fuel : Nat} {p : List MemPlace} {nm : String} {g : Nat} (hg : P.globalNamed nm = some g) (hv : W.var? P nm = some cs) (hu : P.underlying 101 = some (.array 64 5)) (hu5 : P.underlying 5 = some (.int .u8)) (c5 : P.cellsOf 5 = 1)
    {enc : TypeId × Value → Unit} {base : Nat} {sp : Nat → Bool} {held : Bool} (hd : DataW.trod enc P W base sp held fuel 101 cs.toList = some (Rows.laid_math_bits_deBruijn64tab, p)) (r : Nat) (hr : r < 64) : W.cell? ⟨g, r, none⟩ = some (.int .u8 (Lib.deBruijn64tab.getD r 0)) := by
  obtain ⟨xs, m, _, ex, _, hl, hel⟩ := DataW.trod_array hu hd
  have hE := hel r hr
  rw [c5, Nat.mul_one, List.getElem?_eq_getElem (by omega)] at hE
  obtain ⟨z, e1, e2, _⟩ := DataW.trod_int hu5 hE
  have hlen : Lib.deBruijn64tab.length = 64 := by kernel_rfl
  have hdat : (Rows.laid_math_bits_deBruijn64tab : DataW Unit) = .agg (Lib.deBruijn64tab.map fun n : Nat => .lit (.int .u8 (n : Int))) := by kernel_rfl
  have e3 : (xs.map (·.1)) = Lib.deBruijn64tab.map fun n : Nat => .lit (.int .u8 (n : Int)) := by
    rw [hdat] at ex
    exact (DataW.agg.inj (Prod.mk.inj ex).1).symm
  have e4 : (xs.map (·.1))[r]? = (Lib.deBruijn64tab.map fun n : Nat => (DataW.lit (.int .u8 (n : Int)) : DataW Unit))[r]? := by rw [e3]
  rw [List.getElem?_map, List.getElem?_map, List.getElem?_eq_getElem (by omega : r < xs.length), List.getElem?_eq_getElem (by omega : r < Lib.deBruijn64tab.length), e2] at e4
  have hz : z = Lib.deBruijn64tab.getD r 0 := by
    simp only [Option.map_some, Option.some.injEq, DataW.lit.injEq, Lit.int.injEq, true_and] at e4
    rw [e4, List.getD, List.getElem?_eq_getElem (by omega : r < Lib.deBruijn64tab.length)]; rfl
  rw [World.var?_cell hg hv r, ← hz]
  have : cs.toList[r]? = some (.int .u8 z) := by
    have h0 : ((cs.toList.drop r).take 1)[0]? = some (.int .u8 z) := by rw [e1]; rfl
    simpa using h0
  simpa using this
theorem of_laid {W : World} (h : laidMetH Tryd.prog laid W) : LaidW W := by
  rw [MakeChecks.laidMetH_plain _ _ _ (by kernel_rfl)] at h
  obtain ⟨ps, ⟨g0, t0, cs0, f0, p0, q0, hg0, ht0, hv0, hd0, ⟨g1, t1, cs1, f1, p1, q1, hg1, ht1, hv1, hd1, _, _⟩, _⟩, _, _⟩ := h
  obtain rfl := Option.some.inj ((show Tryd.prog.globalNamed "math/bits.deBruijn64tab" = some 1 by kernel_rfl).symm.trans hg0)
  obtain rfl := Option.some.inj ((show Tryd.prog.globalNamed "thermograph/tsz.none" = some 0 by kernel_rfl).symm.trans hg1)
  obtain rfl := Option.some.inj ((show (Tryd.prog.globals[1]?).map (·.type) = some 101 by kernel_rfl).symm.trans ht0)
  obtain rfl := Option.some.inj ((show (Tryd.prog.globals[0]?).map (·.type) = some 47 by kernel_rfl).symm.trans ht1)
  have hlen : Lib.deBruijn64tab.length = 64 := by kernel_rfl
  refine ⟨fun j hj => tab_cell hg0 hv0 Tryd.underlying101 Tryd.underlying5 (by kernel_rfl) hd0 j (by omega), ?_⟩
  have c3 : Tryd.prog.cellsOf 3 = 1 := by kernel_rfl
  obtain ⟨xs, n, _, ex, hcl, hxl, hf⟩ := DataW.trod_struct Tryd.underlying47 hd1
  have h0 : DataW.trod _ Tryd.prog W _ _ _ n 3 ((cs1.toList.drop 0).take (Tryd.prog.cellsOf 3)) = xs[0]? := hf 0 _ rfl
  have h1 : DataW.trod _ Tryd.prog W _ _ _ n 3 ((cs1.toList.drop 1).take (Tryd.prog.cellsOf 3)) = xs[1]? := hf 1 _ rfl
  rw [c3] at h0 h1
  have hxl2 : xs.length = 2 := hxl
  rw [List.getElem?_eq_getElem (by omega)] at h0 h1
  obtain ⟨z0, a0, b0, _⟩ := DataW.trod_int Tryd.underlying3 h0
  obtain ⟨z1, a1, b1, _⟩ := DataW.trod_int Tryd.underlying3 h1
  have e3 : (xs.map (·.1)) = [(.lit (.int .i64 (-1)) : DataW Unit), .lit (.int .i64 (-1))] := (DataW.agg.inj (Prod.mk.inj ex).1).symm
  have e40 : (xs.map (·.1))[0]? = [(.lit (.int .i64 (-1)) : DataW Unit), .lit (.int .i64 (-1))][0]? := by rw [e3]
  have e41 : (xs.map (·.1))[1]? = [(.lit (.int .i64 (-1)) : DataW Unit), .lit (.int .i64 (-1))][1]? := by rw [e3]
  rw [List.getElem?_map, List.getElem?_eq_getElem (by omega : 0 < xs.length), b0] at e40
  rw [List.getElem?_map, List.getElem?_eq_getElem (by omega : 1 < xs.length), b1] at e41
  simp at e40 e41
  subst e40 e41
  rw [World.var?_cell hg1 hv1 0, World.var?_cell hg1 hv1 1]
  constructor
  · have h0 : ((cs1.toList.drop 0).take 1)[0]? = some (.int .i64 (-1)) := by rw [a0]; rfl
    simpa using h0
  · have h0 : ((cs1.toList.drop 1).take 1)[0]? = some (.int .i64 (-1)) := by rw [a1]; rfl
    simpa using h0
end Go.Proofs.YtmnlbedgkjnodaaDoor.Ld
