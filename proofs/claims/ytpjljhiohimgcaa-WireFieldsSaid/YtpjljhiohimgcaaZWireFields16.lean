/- A message as an argument, opened.
   What functions of the translation come to, each as a Lean function, and a proof that the call comes to just that; or a law's row, out of its plain law. Written by mp.py, a program of this session, which runs the printer of the kit with stand-in bodies for some library functions. -/
import Derived.Test.YtpjljhiohimgcaaZWireFields15
import Derived.Test.YtpjljhiohimgcaaZWireFields6
import Derived.Test.YtpjljhiohimgcaaZWireFields3
namespace Go.Proofs.Ytpjljhiohimgcaa.MsO
open Go.RowKit Go.ChangeShapes Go.WideShapes Go.Deep Go.Proofs.YtpjljhiohimgcaaW.PrintWords Go.Proofs.YtpjljhiohimgcaaW.PrintLast Go.Proofs.YtpjljhiohimgcaaW.PrintMore Go.Proofs.Ytpjljhiohimgcaa.QB Go.Proofs.Ytpjljhiohimgcaa.Op Go.Proofs.Ytpjljhiohimgcaa.WpP
set_option linter.unusedVariables false
set_option linter.unusedSimpArgs false
theorem opens_pt : Opens Try.prog 26 k26 OkPt :=
  opens_mono (opens_iso (g := fun p : Int × Int × Int => (⟨p.1, p.2.1, p.2.2⟩ : Pt)) (fun _ => rfl)
    (opens_struct Try.underlying26 (by kernel_rfl) (opensFs_cons rfl (by kernel_rfl) (opens_int Try.underlying3) (opensFs_cons rfl (by kernel_rfl) (opens_int Try.underlying24) (opensFs_last rfl (by kernel_rfl) (opens_int Try.underlying24)))))) (fun x h => by
      obtain ⟨h0, h1, h2⟩ := h
      simp [Lit.wf, IntKind.min, IntKind.max, IntKind.signed, IntKind.bits] at h0 h1 h2
      exact ⟨⟨by omega, by omega⟩, ⟨by omega, by omega⟩⟩)
theorem opens_mt : Opens Try.prog 49 k49 OkMt :=
  opens_mono (opens_iso (g := fun p : ByteArray × Int × Int × Int => (⟨p.1, p.2.1, p.2.2.1, p.2.2.2⟩ : Mt)) (fun _ => rfl)
    (opens_struct Try.underlying49 (by kernel_rfl) (opensFs_cons rfl (by kernel_rfl) (opens_string Try.underlying9) (opensFs_cons rfl (by kernel_rfl) (opens_int Try.underlying3) (opensFs_cons rfl (by kernel_rfl) (opens_int Try.underlying3) (opensFs_last rfl (by kernel_rfl) (opens_int Try.underlying47))))))) (fun x h => by
      obtain ⟨h0, h1, h2, h3⟩ := h
      simp [Lit.wf, IntKind.min, IntKind.max, IntKind.signed, IntKind.bits] at h3
      exact ⟨by omega, by omega⟩)
def kR : Kd (Int × Int) := Kd.pair (Kd.int .i64) (Kd.int .i64)
theorem opens_R : Opens Try.prog 23 kR (fun _ => True) :=
  opens_mono (opens_struct Try.underlying23 (by kernel_rfl) (opensFs_cons rfl (by kernel_rfl) (opens_int Try.underlying3) (opensFs_last rfl (by kernel_rfl) (opens_int Try.underlying3)))) (fun _ _ => trivial)
abbrev I : Kd Int := Kd.int .i64
abbrev MT := Int × Int × Int × Int × Int × ByteArray × Int × (Int × Int) × Pt × Int × Bool × List Pt × List Mt
def kMsg : Kd Msg := Kd.iso (Kd.pair I (Kd.pair I (Kd.pair I (Kd.pair I (Kd.pair I (Kd.pair Kd.string (Kd.pair I (Kd.pair kR (Kd.pair k26 (Kd.pair I (Kd.pair Kd.bool (Kd.pair (Kd.slice 26 k26) (Kd.slice 49 k49)))))))))))))
  (fun m : Msg => ((m.kind, m.seq, m.epoch, m.space, m.shard, m.id, m.block, (m.lo, m.hi), (⟨m.t, m.v, m.s⟩ : Pt), m.err, m.more, m.ps, m.ms) : MT))
theorem kMsg_open {w : World} {m : Msg} {cs : List Value} (h : kMsg.K w m cs) : ∃ Ap cp Am cm, cs = (m.cs (.slice Ap m.ps.length cp) (.slice Am m.ms.length cm)).toList ∧ m.ps.length ≤ cp ∧ m.ms.length ≤ cm ∧ Kd.C k26 w Ap m.ps.length m.ps ∧ Kd.C k49 w Am m.ms.length m.ms := by
  obtain ⟨_, _, rfl, rfl, ⟨_, _, rfl, rfl, ⟨_, _, rfl, rfl, ⟨_, _, rfl, rfl, ⟨_, _, rfl, rfl, ⟨_, _, rfl, rfl, ⟨_, _, rfl, rfl, ⟨_, _, rfl, ⟨_, _, rfl, rfl, rfl⟩, ⟨_, _, rfl, hp, ⟨_, _, rfl, rfl, ⟨_, _, rfl, rfl, ⟨_, _, rfl, ⟨Ap, cp, rfl, h1, h2⟩, ⟨Am, cm, rfl, h3, h4⟩⟩⟩⟩⟩⟩⟩⟩⟩⟩⟩⟩⟩ := h
  obtain rfl := k26_open hp
  exact ⟨Ap, cp, Am, cm, rfl, h1, h3, h2, h4⟩
/-- What is known of a message's numbers. -/
structure OkMsg (m : Msg) : Prop where
  okp : ∀ x ∈ m.ps, OkPt x
  okm : ∀ x ∈ m.ms, OkMt x
  okv : (0 ≤ m.v ∧ m.v < 18446744073709551616) ∧ (0 ≤ m.s ∧ m.s < 18446744073709551616)
theorem opens_msg : Opens Try.prog 31 kMsg OkMsg :=
  opens_mono (opens_iso (g := fun p : MT => (⟨p.1, p.2.1, p.2.2.1, p.2.2.2.1, p.2.2.2.2.1, p.2.2.2.2.2.1, p.2.2.2.2.2.2.1, p.2.2.2.2.2.2.2.1.1, p.2.2.2.2.2.2.2.1.2, p.2.2.2.2.2.2.2.2.1.f0, p.2.2.2.2.2.2.2.2.1.f1, p.2.2.2.2.2.2.2.2.1.f2, p.2.2.2.2.2.2.2.2.2.1, p.2.2.2.2.2.2.2.2.2.2.1, p.2.2.2.2.2.2.2.2.2.2.2.1, p.2.2.2.2.2.2.2.2.2.2.2.2⟩ : Msg)) (fun _ => rfl)
    (opens_struct Try.underlying31 (by kernel_rfl) (opensFs_cons rfl (by kernel_rfl) (opens_int Try.underlying3) (opensFs_cons rfl (by kernel_rfl) (opens_int Try.underlying3) (opensFs_cons rfl (by kernel_rfl) (opens_int Try.underlying3) (opensFs_cons rfl (by kernel_rfl) (opens_int Try.underlying3) (opensFs_cons rfl (by kernel_rfl) (opens_int Try.underlying3)
      (opensFs_cons rfl (by kernel_rfl) (opens_string Try.underlying9) (opensFs_cons rfl (by kernel_rfl) (opens_int Try.underlying3) (opensFs_cons rfl (by kernel_rfl) opens_R (opensFs_cons rfl (by kernel_rfl) opens_pt (opensFs_cons rfl (by kernel_rfl) (opens_int Try.underlying27) (opensFs_cons rfl (by kernel_rfl) (opens_bool Try.underlying4)
      (opensFs_cons rfl (by kernel_rfl) (opens_slice Try.underlying28 (by kernel_rfl) opens_pt) (opensFs_last rfl (by kernel_rfl) (opens_slice Try.underlying29 (by kernel_rfl) opens_mt)))))))))))))))) (fun m h => by
    obtain ⟨_, _, _, _, _, _, _, _, hv, _, _, hp, hm⟩ := h
    exact ⟨hp, hm, hv⟩)
/-- A message's sizes. -/
def SzMsg (m : Msg) : Prop := m.id.size ≤ 140737488351232 ∧ m.ps.length * 24 ≤ 140737488351232 ∧ m.ms.length * 40 ≤ 140737488351232
theorem parts_sized {H : Type} {P : Program} {ts : List TypeId} {ds parts : List (DataW H)} {fs : Array Field} {t : TypeId} {j : Nat} (hsz : (DataW.weightsEach P ts ds).all (· ≤ reachBytes) = true) (ht : ts[j]? = some t) (hd : ds[j]? = some (.agg parts)) (hu : P.underlying t = some (.struct fs)) :
    (DataW.weightsEach P (fs.toList.map (·.type)) parts).all (· ≤ reachBytes) = true := by
  refine List.all_eq_true.2 fun n hn => ?_
  exact List.all_eq_true.1 hsz n (DataW.weights_mem_each ht hd n (by simpa [DataW.weights, hu] using hn))
set_option maxRecDepth 10000 in
theorem open_msg_arg {H : Type} {enc : TypeId × Value → H} {W : World} {base : Nat} {spare : Nat → Bool} {held : Bool} {cs : Array Value} {dd : DataW H} {ps : List MemPlace} {ts : List TypeId} {ds : List (DataW H)} {j : Nat}
    (hsz : (DataW.weightsEach Try.prog ts ds).all (· ≤ reachBytes) = true) (ht : ts[j]? = some 31) (hd : ds[j]? = some dd) (h : DataW.Trod enc Try.prog W base spare held 31 (.agg cs) dd ps) :
    ∃ (m : Msg) (Ap : Option Addr) (cp : Nat) (Am : Option Addr) (cm : Nat), cs = m.cs (.slice Ap m.ps.length cp) (.slice Am m.ms.length cm) ∧ MIn0 W m Ap cp Am cm ∧ SzMsg m := by
  obtain ⟨m, hK, hok⟩ := open_agg_arg opens_msg h
  obtain ⟨Ap, cp, Am, cm, hcs, h1, h3, h2, h4⟩ := kMsg_open hK
  have hcs' : cs = m.cs (.slice Ap m.ps.length cp) (.slice Am m.ms.length cm) := by
    have h5 : cs.toList = (m.cs (.slice Ap m.ps.length cp) (.slice Am m.ms.length cm)).toList := hcs
    rw [← Array.toArray_toList (xs := cs), h5]
  subst hcs'
  refine ⟨m, Ap, cp, Am, cm, rfl, ⟨hok.okp, hok.okm, hok.okv, h1, h3, h2, h4⟩, ?_⟩
  obtain ⟨fuel, hf⟩ := h
  obtain ⟨xs, n, _, hx, _, hl, hfld⟩ := DataW.trod_struct Try.underlying31 hf
  have hdd : dd = .agg (xs.map (·.1)) := congrArg Prod.fst hx
  subst hdd
  have hs := parts_sized hsz ht hd Try.underlying31
  have h5 := hfld 5 _ rfl
  have h11 := hfld 11 _ rfl
  have h12 := hfld 12 _ rfl
  rw [List.getElem?_eq_getElem (by rw [hl]; decide)] at h5 h11 h12
  refine ⟨?_, ?_, ?_⟩
  · have hl5 : (xs.map (·.1))[5]? = some (xs[5]'(by rw [hl]; decide)).1 := by rw [List.getElem?_map, List.getElem?_eq_getElem (by rw [hl]; decide)]; rfl
    obtain ⟨z, hz, hz2, _⟩ := DataW.trod_string Try.underlying9 h5
    have e1 : m.id = z := by
      have e : [Value.string m.id] = [.string z] := hz
      simpa using e
    rw [hz2] at hl5
    have := sized_string hs (j := 5) rfl hl5
    rw [Array.length_toList] at this
    rw [e1]
    exact this
  · have hl11 : (xs.map (·.1))[11]? = some (xs[11]'(by rw [hl]; decide)).1 := by rw [List.getElem?_map, List.getElem?_eq_getElem (by rw [hl]; decide)]; rfl
    exact sized_any (ps := (xs[11]'(by rw [hl]; decide)).2) hs (j := 11) rfl hl11 Try.underlying28 (by kernel_rfl) ⟨n, h11⟩
  · have hl12 : (xs.map (·.1))[12]? = some (xs[12]'(by rw [hl]; decide)).1 := by rw [List.getElem?_map, List.getElem?_eq_getElem (by rw [hl]; decide)]; rfl
    exact sized_any (ps := (xs[12]'(by rw [hl]; decide)).2) hs (j := 12) rfl hl12 Try.underlying29 (by kernel_rfl) ⟨n, h12⟩
end Go.Proofs.Ytpjljhiohimgcaa.MsO
namespace Go.Proofs.Ytpjljhiohimgcaa.QB
open Go.RowKit Go.Proofs.YtpjljhiohimgcaaW.PrintWords Go.Proofs.YtpjljhiohimgcaaW.PrintLast Go.Proofs.YtpjljhiohimgcaaW.PrintMore
attribute [local go_sem] max2_int min2_int max_two min_two max_three min_three max_four min_four   -- for this text's walks alone
set_option linter.unusedVariables false
set_option linter.unusedSimpArgs false

/-! ### thermographlaw13_heavy: function 8 -/
def thermographlaw13_heavy.l0 : Nat → Int → Int → Int → Int → Int → Int → Int → ByteArray → Int → Int → Int → Int → Int → Int → Int → Bool → List (S26) → List (S49) → Option (Bool)
  | 0, _, _, _, _, _, _, _, _, _, _, _, _, _, _, _, _, _, _ => none
  | k + 1, x3, x4, x142000, x142001, x142002, x142003, x142004, x142005, x142006, x142007, x142008, x142009, x142010, x142011, x142012, x142013, x142014, x142015 => if x4 < (x142015.length : Int) then (if x3 ≤ 16384 then (if 0 ≤ x4 then (thermographlaw13_heavy.l0 k (wrap64 (x3 + (mn (((rd_T49 x142015 x4).f0).size : Int) 1048576))) (wrap64 (x4 + 1)) x142000 x142001 x142002 x142003 x142004 x142005 x142006 x142007 x142008 x142009 x142010 x142011 x142012 x142013 x142014 x142015) else (none)) else (some (decide (x3 > 16384)))) else (some (decide (x3 > 16384)))
def thermographlaw13_heavy.f (k : Nat) (a0_0 : Int) (a0_1 : Int) (a0_2 : Int) (a0_3 : Int) (a0_4 : Int) (a0_5 : ByteArray) (a0_6 : Int) (a0_7 : Int) (a0_8 : Int) (a0_9 : Int) (a0_10 : Int) (a0_11 : Int) (a0_12 : Int) (a0_13 : Bool) (l0_14 : List (S26)) (l0_15 : List (S49)) : Option (Bool) := thermographlaw13_heavy.l0 k (wrap64 ((wrap64 ((a0_5.size : Int) + (l0_14.length : Int))) + (l0_15.length : Int))) 0 a0_0 a0_1 a0_2 a0_3 a0_4 a0_5 a0_6 a0_7 a0_8 a0_9 a0_10 a0_11 a0_12 a0_13 l0_14 l0_15
theorem thermographlaw13_heavy.mono_l : ∀ k, (∀ y0 y1 y2 y3 y4 y5 y6 y7 y8 y9 y10 y11 y12 y13 y14 y15 y16 y17, LeO (thermographlaw13_heavy.l0 k y0 y1 y2 y3 y4 y5 y6 y7 y8 y9 y10 y11 y12 y13 y14 y15 y16 y17) (thermographlaw13_heavy.l0 (k + 1) y0 y1 y2 y3 y4 y5 y6 y7 y8 y9 y10 y11 y12 y13 y14 y15 y16 y17))
  | 0 => fun _ _ _ _ _ _ _ _ _ _ _ _ _ _ _ _ _ _ r h => by simp [thermographlaw13_heavy.l0] at h
  | k + 1 => by
    have ih0 := thermographlaw13_heavy.mono_l k
    · intro y0 y1 y2 y3 y4 y5 y6 y7 y8 y9 y10 y11 y12 y13 y14 y15 y16 y17
      unfold thermographlaw13_heavy.l0
      repeat' first
      | (with_reducible exact ih0 _ _ _ _ _ _ _ _ _ _ _ _ _ _ _ _ _ _)
      | (with_reducible exact LeO.refl _)
      | (with_reducible exact LeO.none _)
      | (with_reducible refine LeO.ite ?_ ?_)
      | (with_reducible refine LeO.bind ?_ (fun _ => ?_))
      | exact ih0 _ _ _ _ _ _ _ _ _ _ _ _ _ _ _ _ _ _
      | exact LeO.none _
      | refine LeO.ite ?_ ?_
      | refine LeO.bind ?_ (fun _ => ?_)
theorem thermographlaw13_heavy.mono : ∀ a0 a1 a2 a3 a4 a5 a6 a7 a8 a9 a10 a11 a12 a13 a14 a15 k, LeO (thermographlaw13_heavy.f k a0 a1 a2 a3 a4 a5 a6 a7 a8 a9 a10 a11 a12 a13 a14 a15) (thermographlaw13_heavy.f (k + 1) a0 a1 a2 a3 a4 a5 a6 a7 a8 a9 a10 a11 a12 a13 a14 a15) := by
  intro a0 a1 a2 a3 a4 a5 a6 a7 a8 a9 a10 a11 a12 a13 a14 a15 k
  have ih0 := thermographlaw13_heavy.mono_l k
  unfold thermographlaw13_heavy.f
  repeat' first
      | (with_reducible exact ih0 _ _ _ _ _ _ _ _ _ _ _ _ _ _ _ _ _ _)
      | (with_reducible exact LeO.refl _)
      | (with_reducible exact LeO.none _)
      | (with_reducible refine LeO.ite ?_ ?_)
      | (with_reducible refine LeO.bind ?_ (fun _ => ?_))
      | exact ih0 _ _ _ _ _ _ _ _ _ _ _ _ _ _ _ _ _ _
      | exact LeO.none _
      | refine LeO.ite ?_ ?_
      | refine LeO.bind ?_ (fun _ => ?_)
set_option maxHeartbeats 8000000 in
set_option maxRecDepth 100000 in
theorem thermographlaw13_heavy.calls (k : Nat) (a0_0 : Int) (a0_1 : Int) (a0_2 : Int) (a0_3 : Int) (a0_4 : Int) (a0_5 : ByteArray) (a0_6 : Int) (a0_7 : Int) (a0_8 : Int) (a0_9 : Int) (a0_10 : Int) (a0_11 : Int) (a0_12 : Int) (a0_13 : Bool) (A0_14 : Option Addr) (c0_14 : Nat) (l0_14 : List (S26)) (A0_15 : Option Addr) (c0_15 : Nat) (l0_15 : List (S49)) (r : Bool) (w : World) (hr0_14 : Kd.C k26 w A0_14 l0_14.length l0_14) (hc0_14 : l0_14.length ≤ c0_14) (hr0_15 : Kd.C k49 w A0_15 l0_15.length l0_15) (hc0_15 : l0_15.length ≤ c0_15) (h : thermographlaw13_heavy.f k a0_0 a0_1 a0_2 a0_3 a0_4 a0_5 a0_6 a0_7 a0_8 a0_9 a0_10 a0_11 a0_12 a0_13 l0_14 l0_15 = some r) :
    Calls Try.prog 8 #[.agg #[.int .i64 a0_0, .int .i64 a0_1, .int .i64 a0_2, .int .i64 a0_3, .int .i64 a0_4, .string a0_5, .int .i64 a0_6, .int .i64 a0_7, .int .i64 a0_8, .int .i64 a0_9, .int .u64 a0_10, .int .u64 a0_11, .int .i64 a0_12, .bool a0_13, .slice A0_14 l0_14.length c0_14, .slice A0_15 l0_15.length c0_15]] w fun e w' => e = .returned (.bool r) ∧ Below w.heap.size w w' := by
  have hu31 := Try.underlying31
  have HR0_14 := Aside0.mk hr0_14
  have HC0_14 := Aside0.mk hc0_14
  clear hr0_14 hc0_14
  have HR0_15 := Aside0.mk hr0_15
  have HC0_15 := Aside0.mk hc0_15
  clear hr0_15 hc0_15
  have HB := Aside0.mk (Below.refl w.heap.size w)
  have H : (thermographlaw13_heavy.l0 k (wrap64 ((wrap64 ((a0_5.size : Int) + (l0_14.length : Int))) + (l0_15.length : Int))) 0 a0_0 a0_1 a0_2 a0_3 a0_4 a0_5 a0_6 a0_7 a0_8 a0_9 a0_10 a0_11 a0_12 a0_13 l0_14 l0_15) = some r := h
  clear h
  have H' := Aside0.mk H
  clear H
  go_enter Try.func8, Try.ntmps8
  go_wp2_with (first | ((with_reducible refine gate_dst (N := 1) rfl ?_); refine box_event ?hg (N := 1) ?hd (cs := #[.int .i64 a0_0, .int .i64 a0_1, .int .i64 a0_2, .int .i64 a0_3, .int .i64 a0_4, .string a0_5, .int .i64 a0_6, .int .i64 a0_7, .int .i64 a0_8, .int .i64 a0_9, .int .u64 a0_10, .int .u64 a0_11, .int .i64 a0_12, .bool a0_13, .slice A0_14 l0_14.length c0_14, .slice A0_15 l0_15.length c0_15]) (t := 31) ?hr ?_; (case hd => rfl); (case hg => rfl); (case hr => first | (go_simp; done) | (go_simp; rfl)); intro gb141 hg w2 hbox hb; have n0_ := Aside0.mk (below_step (by repeat (first | (with_reducible first | exact HB.out | apply below_alloc | apply pw_below_drewN | apply below_drew1) | exact HB.out)) hb); have n1_ := Aside0.mk (hbox); have n2_ := Aside0.mk ((by rw [hg]; exact (below_size (by repeat (first | (with_reducible first | exact HB.out | apply below_alloc | apply pw_below_drewN | apply below_drew1) | exact HB.out))) : w.heap.size ≤ gb141)); have n3_ := Aside0.mk ((by rw [hg]; exact (below_size (by repeat (first | (with_reducible first | exact HB.out | apply below_alloc | apply pw_below_drewN | apply below_drew1) | exact HB.out))) : w.heap.size ≤ gb141)); clear HB; have HB := n0_; have BK141 := n1_; have GW141 := n2_; have GE141 := n3_; clear n0_ n1_ n2_ n3_; clear hb hbox hg; have hcz3_0 : w2.cell? ⟨gb141, 0, none⟩ = some (.int .i64 a0_0) := (blk_cell BK141.out 0).trans rfl; have hcz3_1 : w2.cell? ⟨gb141, 1, none⟩ = some (.int .i64 a0_1) := (blk_cell BK141.out 1).trans rfl; have hcz3_2 : w2.cell? ⟨gb141, 2, none⟩ = some (.int .i64 a0_2) := (blk_cell BK141.out 2).trans rfl; have hcz3_3 : w2.cell? ⟨gb141, 3, none⟩ = some (.int .i64 a0_3) := (blk_cell BK141.out 3).trans rfl; have hcz3_4 : w2.cell? ⟨gb141, 4, none⟩ = some (.int .i64 a0_4) := (blk_cell BK141.out 4).trans rfl; have hcz3_5 : w2.cell? ⟨gb141, 5, none⟩ = some (.string a0_5) := (blk_cell BK141.out 5).trans rfl; have hcz3_6 : w2.cell? ⟨gb141, 6, none⟩ = some (.int .i64 a0_6) := (blk_cell BK141.out 6).trans rfl; have hcz3_7 : w2.cell? ⟨gb141, 7, none⟩ = some (.int .i64 a0_7) := (blk_cell BK141.out 7).trans rfl; have hcz3_8 : w2.cell? ⟨gb141, 8, none⟩ = some (.int .i64 a0_8) := (blk_cell BK141.out 8).trans rfl; have hcz3_9 : w2.cell? ⟨gb141, 9, none⟩ = some (.int .i64 a0_9) := (blk_cell BK141.out 9).trans rfl; have hcz3_10 : w2.cell? ⟨gb141, 10, none⟩ = some (.int .u64 a0_10) := (blk_cell BK141.out 10).trans rfl; have hcz3_11 : w2.cell? ⟨gb141, 11, none⟩ = some (.int .u64 a0_11) := (blk_cell BK141.out 11).trans rfl; have hcz3_12 : w2.cell? ⟨gb141, 12, none⟩ = some (.int .i64 a0_12) := (blk_cell BK141.out 12).trans rfl; have hcz3_13 : w2.cell? ⟨gb141, 13, none⟩ = some (.bool a0_13) := (blk_cell BK141.out 13).trans rfl; have hcz3_14 : w2.cell? ⟨gb141, 14, none⟩ = some (.slice A0_14 l0_14.length c0_14) := (blk_cell BK141.out 14).trans rfl; have hcz3_15 : w2.cell? ⟨gb141, 15, none⟩ = some (.slice A0_15 l0_15.length c0_15) := (blk_cell BK141.out 15).trans rfl; have hfz3_0 := blk_frozen BK141.out 0; have hfz3_1 := blk_frozen BK141.out 1; have hfz3_2 := blk_frozen BK141.out 2; have hfz3_3 := blk_frozen BK141.out 3; have hfz3_4 := blk_frozen BK141.out 4; have hfz3_5 := blk_frozen BK141.out 5; have hfz3_6 := blk_frozen BK141.out 6; have hfz3_7 := blk_frozen BK141.out 7; have hfz3_8 := blk_frozen BK141.out 8; have hfz3_9 := blk_frozen BK141.out 9; have hfz3_10 := blk_frozen BK141.out 10; have hfz3_11 := blk_frozen BK141.out 11; have hfz3_12 := blk_frozen BK141.out 12; have hfz3_13 := blk_frozen BK141.out 13; have hfz3_14 := blk_frozen BK141.out 14; have hfz3_15 := blk_frozen BK141.out 15))
  go_loopg [3, 4] k (fun kq v3 v4 w' => ∃ (x3_1 : Int) (x4_1 : Int), v3 = .int .i64 x3_1 ∧ v4 = .int .i64 x4_1 ∧ Aside0 (thermographlaw13_heavy.l0 kq x3_1 x4_1 a0_0 a0_1 a0_2 a0_3 a0_4 a0_5 a0_6 a0_7 a0_8 a0_9 a0_10 a0_11 a0_12 a0_13 l0_14 l0_15 = some r) ∧ Aside0 (kq ≤ k) ∧ Aside0 (w'.heap[gb141]? = some (.cells #[.int .i64 a0_0, .int .i64 a0_1, .int .i64 a0_2, .int .i64 a0_3, .int .i64 a0_4, .string a0_5, .int .i64 a0_6, .int .i64 a0_7, .int .i64 a0_8, .int .i64 a0_9, .int .u64 a0_10, .int .u64 a0_11, .int .i64 a0_12, .bool a0_13, (.slice A0_14 l0_14.length c0_14), (.slice A0_15 l0_15.length c0_15)] 31 (0, 0))) ∧ Aside0 (Below w.heap.size w w'))
  case atStart => exact ⟨(wrap64 ((wrap64 ((a0_5.size : Int) + (l0_14.length : Int))) + (l0_15.length : Int))), (0), (by first | rfl | (simp; done) | (simp [*]; done)), (by first | rfl | (simp; done) | (simp [*]; done)), H', ⟨Nat.le_refl _⟩, ⟨by (with_reducible repeat (first | refine blk_drewN ?_ _ | refine blk_drew ?_ | refine blk_alloc ?_ _)); exact BK141.out⟩, ⟨by repeat (first | (with_reducible first | exact HB.out | apply below_alloc | apply pw_below_drewN | apply below_drew1 | refine below_set ?_ GE141.out) | exact HB.out)⟩⟩
  case round =>
    clear H'
    try clear p2
    try clear hcz3_0
    try clear hcz3_1
    try clear hcz3_10
    try clear hcz3_11
    try clear hcz3_12
    try clear hcz3_13
    try clear hcz3_14
    try clear hcz3_15
    try clear hcz3_2
    try clear hcz3_3
    try clear hcz3_4
    try clear hcz3_5
    try clear hcz3_6
    try clear hcz3_7
    try clear hcz3_8
    try clear hcz3_9
    try clear hfz3_0
    try clear hfz3_1
    try clear hfz3_10
    try clear hfz3_11
    try clear hfz3_12
    try clear hfz3_13
    try clear hfz3_14
    try clear hfz3_15
    try clear hfz3_2
    try clear hfz3_3
    try clear hfz3_4
    try clear hfz3_5
    try clear hfz3_6
    try clear hfz3_7
    try clear hfz3_8
    try clear hfz3_9
    obtain ⟨x3_1, x4_1, rfl, rfl, HA, HK1, BK141, HB⟩ := hrel
    cases gk with
    | zero => exact absurd HA.out (by simp [thermographlaw13_heavy.l0])
    | succ k1 =>
      have H := HA.out
      clear HA
      simp only [thermographlaw13_heavy.l0] at H
      by_cases c4 : x4_1 < (l0_15.length : Int)
      · rw [if_pos c4] at H
        have c4b0 : decide (x4_1 < (l0_15.length : Int)) = true := decide_eq_true c4
        clear c4
        by_cases c5 : x3_1 ≤ 16384
        · rw [if_pos c5] at H
          have c5b0 : decide (x3_1 ≤ 16384) = true := decide_eq_true c5
          clear c5
          by_cases c6 : 0 ≤ x4_1
          · rw [if_pos c6] at H
            have c6b0 : decide (0 ≤ x4_1) = true := decide_eq_true c6
            clear c6
            obtain ⟨ji7, hji7⟩ : ∃ j_ : Int, (mn (((rd_T49 l0_15 x4_1).f0).size : Int) 1048576) = j_ := ⟨_, rfl⟩
            replace H : (thermographlaw13_heavy.l0 k1 (wrap64 (x3_1 + (ji7))) (wrap64 (x4_1 + 1)) a0_0 a0_1 a0_2 a0_3 a0_4 a0_5 a0_6 a0_7 a0_8 a0_9 a0_10 a0_11 a0_12 a0_13 l0_14 l0_15) = some r := by first | (rw [hji7] at H; exact H) | (simp only [hji7] at H ⊢; exact H)
            have hji7_ : (if 1048576 < (((rd_T49 l0_15 x4_1).f0).size : Int) then 1048576 else (((rd_T49 l0_15 x4_1).f0).size : Int)) = ji7 := hji7
            have H' := Aside0.mk H
            clear H
            have hcz8_0 : wr.cell? ⟨gb141, 0, none⟩ = some (.int .i64 a0_0) := (blk_cell BK141.out 0).trans rfl
            have hcz8_1 : wr.cell? ⟨gb141, 1, none⟩ = some (.int .i64 a0_1) := (blk_cell BK141.out 1).trans rfl
            have hcz8_2 : wr.cell? ⟨gb141, 2, none⟩ = some (.int .i64 a0_2) := (blk_cell BK141.out 2).trans rfl
            have hcz8_3 : wr.cell? ⟨gb141, 3, none⟩ = some (.int .i64 a0_3) := (blk_cell BK141.out 3).trans rfl
            have hcz8_4 : wr.cell? ⟨gb141, 4, none⟩ = some (.int .i64 a0_4) := (blk_cell BK141.out 4).trans rfl
            have hcz8_5 : wr.cell? ⟨gb141, 5, none⟩ = some (.string a0_5) := (blk_cell BK141.out 5).trans rfl
            have hcz8_6 : wr.cell? ⟨gb141, 6, none⟩ = some (.int .i64 a0_6) := (blk_cell BK141.out 6).trans rfl
            have hcz8_7 : wr.cell? ⟨gb141, 7, none⟩ = some (.int .i64 a0_7) := (blk_cell BK141.out 7).trans rfl
            have hcz8_8 : wr.cell? ⟨gb141, 8, none⟩ = some (.int .i64 a0_8) := (blk_cell BK141.out 8).trans rfl
            have hcz8_9 : wr.cell? ⟨gb141, 9, none⟩ = some (.int .i64 a0_9) := (blk_cell BK141.out 9).trans rfl
            have hcz8_10 : wr.cell? ⟨gb141, 10, none⟩ = some (.int .u64 a0_10) := (blk_cell BK141.out 10).trans rfl
            have hcz8_11 : wr.cell? ⟨gb141, 11, none⟩ = some (.int .u64 a0_11) := (blk_cell BK141.out 11).trans rfl
            have hcz8_12 : wr.cell? ⟨gb141, 12, none⟩ = some (.int .i64 a0_12) := (blk_cell BK141.out 12).trans rfl
            have hcz8_13 : wr.cell? ⟨gb141, 13, none⟩ = some (.bool a0_13) := (blk_cell BK141.out 13).trans rfl
            have hcz8_14 : wr.cell? ⟨gb141, 14, none⟩ = some (.slice A0_14 l0_14.length c0_14) := (blk_cell BK141.out 14).trans rfl
            have hcz8_15 : wr.cell? ⟨gb141, 15, none⟩ = some (.slice A0_15 l0_15.length c0_15) := (blk_cell BK141.out 15).trans rfl
            have hfz8_0 := blk_frozen BK141.out 0
            have hfz8_1 := blk_frozen BK141.out 1
            have hfz8_2 := blk_frozen BK141.out 2
            have hfz8_3 := blk_frozen BK141.out 3
            have hfz8_4 := blk_frozen BK141.out 4
            have hfz8_5 := blk_frozen BK141.out 5
            have hfz8_6 := blk_frozen BK141.out 6
            have hfz8_7 := blk_frozen BK141.out 7
            have hfz8_8 := blk_frozen BK141.out 8
            have hfz8_9 := blk_frozen BK141.out 9
            have hfz8_10 := blk_frozen BK141.out 10
            have hfz8_11 := blk_frozen BK141.out 11
            have hfz8_12 := blk_frozen BK141.out 12
            have hfz8_13 := blk_frozen BK141.out 13
            have hfz8_14 := blk_frozen BK141.out 14
            have hfz8_15 := blk_frozen BK141.out 15
            have p142 : 0 ≤ (x4_1 : Int) := of_decide_eq_true (by first | (with_reducible assumption) | assumption)
            have q142 : x4_1 < (l0_15.length : Int) := of_decide_eq_true (by first | (with_reducible assumption) | assumption)
            obtain ⟨ad142, e142, hx142_0, hx142_1, hx142_2, hx142_3⟩ := at_T49 HR0_15.out x4_1 p142 q142
            cases e142
            replace hx142_0 := (HB.out.cell (World.block_lt_of_cell? w _ hx142_0)).trans hx142_0
            replace hx142_1 := (HB.out.cell (World.block_lt_of_cell? w _ hx142_1)).trans hx142_1
            replace hx142_2 := (HB.out.cell (World.block_lt_of_cell? w _ hx142_2)).trans hx142_2
            replace hx142_3 := (HB.out.cell (World.block_lt_of_cell? w _ hx142_3)).trans hx142_3
            replace p142 := eq_true p142
            replace q142 := eq_true q142
            go_wp2
            go_roundg k1
            case measure => have := HK1.out; omega
            case rel => exact ⟨(wrap64 (x3_1 + (ji7))), (wrap64 (x4_1 + 1)), (by first | rfl | (simp; done) | (simp only [← hji7] <;> (first | rfl | simp)) | (simp [*]; done)), (by first | rfl | (simp; done) | (simp [*]; done)), H', ⟨by have := HK1.out; omega⟩, ⟨by (with_reducible repeat (first | refine blk_drewN ?_ _ | refine blk_drew ?_ | refine blk_alloc ?_ _)); exact BK141.out⟩, ⟨by repeat (first | (with_reducible first | exact HB.out | apply below_alloc | apply pw_below_drewN | apply below_drew1 | refine below_set ?_ GE141.out) | exact HB.out)⟩⟩
          · rw [if_neg c6] at H
            exact absurd H (by simp)
        · rw [if_neg c5] at H
          have c5b0 : decide (x3_1 ≤ 16384) = false := decide_eq_false c5
          clear c5
          obtain rfl := Option.some.inj H
          have hcz9_0 : wr.cell? ⟨gb141, 0, none⟩ = some (.int .i64 a0_0) := (blk_cell BK141.out 0).trans rfl
          have hcz9_1 : wr.cell? ⟨gb141, 1, none⟩ = some (.int .i64 a0_1) := (blk_cell BK141.out 1).trans rfl
          have hcz9_2 : wr.cell? ⟨gb141, 2, none⟩ = some (.int .i64 a0_2) := (blk_cell BK141.out 2).trans rfl
          have hcz9_3 : wr.cell? ⟨gb141, 3, none⟩ = some (.int .i64 a0_3) := (blk_cell BK141.out 3).trans rfl
          have hcz9_4 : wr.cell? ⟨gb141, 4, none⟩ = some (.int .i64 a0_4) := (blk_cell BK141.out 4).trans rfl
          have hcz9_5 : wr.cell? ⟨gb141, 5, none⟩ = some (.string a0_5) := (blk_cell BK141.out 5).trans rfl
          have hcz9_6 : wr.cell? ⟨gb141, 6, none⟩ = some (.int .i64 a0_6) := (blk_cell BK141.out 6).trans rfl
          have hcz9_7 : wr.cell? ⟨gb141, 7, none⟩ = some (.int .i64 a0_7) := (blk_cell BK141.out 7).trans rfl
          have hcz9_8 : wr.cell? ⟨gb141, 8, none⟩ = some (.int .i64 a0_8) := (blk_cell BK141.out 8).trans rfl
          have hcz9_9 : wr.cell? ⟨gb141, 9, none⟩ = some (.int .i64 a0_9) := (blk_cell BK141.out 9).trans rfl
          have hcz9_10 : wr.cell? ⟨gb141, 10, none⟩ = some (.int .u64 a0_10) := (blk_cell BK141.out 10).trans rfl
          have hcz9_11 : wr.cell? ⟨gb141, 11, none⟩ = some (.int .u64 a0_11) := (blk_cell BK141.out 11).trans rfl
          have hcz9_12 : wr.cell? ⟨gb141, 12, none⟩ = some (.int .i64 a0_12) := (blk_cell BK141.out 12).trans rfl
          have hcz9_13 : wr.cell? ⟨gb141, 13, none⟩ = some (.bool a0_13) := (blk_cell BK141.out 13).trans rfl
          have hcz9_14 : wr.cell? ⟨gb141, 14, none⟩ = some (.slice A0_14 l0_14.length c0_14) := (blk_cell BK141.out 14).trans rfl
          have hcz9_15 : wr.cell? ⟨gb141, 15, none⟩ = some (.slice A0_15 l0_15.length c0_15) := (blk_cell BK141.out 15).trans rfl
          have hfz9_0 := blk_frozen BK141.out 0
          have hfz9_1 := blk_frozen BK141.out 1
          have hfz9_2 := blk_frozen BK141.out 2
          have hfz9_3 := blk_frozen BK141.out 3
          have hfz9_4 := blk_frozen BK141.out 4
          have hfz9_5 := blk_frozen BK141.out 5
          have hfz9_6 := blk_frozen BK141.out 6
          have hfz9_7 := blk_frozen BK141.out 7
          have hfz9_8 := blk_frozen BK141.out 8
          have hfz9_9 := blk_frozen BK141.out 9
          have hfz9_10 := blk_frozen BK141.out 10
          have hfz9_11 := blk_frozen BK141.out 11
          have hfz9_12 := blk_frozen BK141.out 12
          have hfz9_13 := blk_frozen BK141.out 13
          have hfz9_14 := blk_frozen BK141.out 14
          have hfz9_15 := blk_frozen BK141.out 15
          go_wp2
          go_ret
          exact ⟨by first | rfl | (simp [errW_none, errW_some] <;> rfl) | (simp [*, errW_none, errW_some] <;> rfl), by repeat (first | (with_reducible first | exact HB.out | apply below_alloc | apply pw_below_drewN | apply below_drew1 | refine below_set ?_ GE141.out) | exact HB.out)⟩
      · rw [if_neg c4] at H
        have c4b0 : decide (x4_1 < (l0_15.length : Int)) = false := decide_eq_false c4
        clear c4
        obtain rfl := Option.some.inj H
        have hcz10_0 : wr.cell? ⟨gb141, 0, none⟩ = some (.int .i64 a0_0) := (blk_cell BK141.out 0).trans rfl
        have hcz10_1 : wr.cell? ⟨gb141, 1, none⟩ = some (.int .i64 a0_1) := (blk_cell BK141.out 1).trans rfl
        have hcz10_2 : wr.cell? ⟨gb141, 2, none⟩ = some (.int .i64 a0_2) := (blk_cell BK141.out 2).trans rfl
        have hcz10_3 : wr.cell? ⟨gb141, 3, none⟩ = some (.int .i64 a0_3) := (blk_cell BK141.out 3).trans rfl
        have hcz10_4 : wr.cell? ⟨gb141, 4, none⟩ = some (.int .i64 a0_4) := (blk_cell BK141.out 4).trans rfl
        have hcz10_5 : wr.cell? ⟨gb141, 5, none⟩ = some (.string a0_5) := (blk_cell BK141.out 5).trans rfl
        have hcz10_6 : wr.cell? ⟨gb141, 6, none⟩ = some (.int .i64 a0_6) := (blk_cell BK141.out 6).trans rfl
        have hcz10_7 : wr.cell? ⟨gb141, 7, none⟩ = some (.int .i64 a0_7) := (blk_cell BK141.out 7).trans rfl
        have hcz10_8 : wr.cell? ⟨gb141, 8, none⟩ = some (.int .i64 a0_8) := (blk_cell BK141.out 8).trans rfl
        have hcz10_9 : wr.cell? ⟨gb141, 9, none⟩ = some (.int .i64 a0_9) := (blk_cell BK141.out 9).trans rfl
        have hcz10_10 : wr.cell? ⟨gb141, 10, none⟩ = some (.int .u64 a0_10) := (blk_cell BK141.out 10).trans rfl
        have hcz10_11 : wr.cell? ⟨gb141, 11, none⟩ = some (.int .u64 a0_11) := (blk_cell BK141.out 11).trans rfl
        have hcz10_12 : wr.cell? ⟨gb141, 12, none⟩ = some (.int .i64 a0_12) := (blk_cell BK141.out 12).trans rfl
        have hcz10_13 : wr.cell? ⟨gb141, 13, none⟩ = some (.bool a0_13) := (blk_cell BK141.out 13).trans rfl
        have hcz10_14 : wr.cell? ⟨gb141, 14, none⟩ = some (.slice A0_14 l0_14.length c0_14) := (blk_cell BK141.out 14).trans rfl
        have hcz10_15 : wr.cell? ⟨gb141, 15, none⟩ = some (.slice A0_15 l0_15.length c0_15) := (blk_cell BK141.out 15).trans rfl
        have hfz10_0 := blk_frozen BK141.out 0
        have hfz10_1 := blk_frozen BK141.out 1
        have hfz10_2 := blk_frozen BK141.out 2
        have hfz10_3 := blk_frozen BK141.out 3
        have hfz10_4 := blk_frozen BK141.out 4
        have hfz10_5 := blk_frozen BK141.out 5
        have hfz10_6 := blk_frozen BK141.out 6
        have hfz10_7 := blk_frozen BK141.out 7
        have hfz10_8 := blk_frozen BK141.out 8
        have hfz10_9 := blk_frozen BK141.out 9
        have hfz10_10 := blk_frozen BK141.out 10
        have hfz10_11 := blk_frozen BK141.out 11
        have hfz10_12 := blk_frozen BK141.out 12
        have hfz10_13 := blk_frozen BK141.out 13
        have hfz10_14 := blk_frozen BK141.out 14
        have hfz10_15 := blk_frozen BK141.out 15
        go_wp2
        go_ret
        exact ⟨by first | rfl | (simp [errW_none, errW_some] <;> rfl) | (simp [*, errW_none, errW_some] <;> rfl), by repeat (first | (with_reducible first | exact HB.out | apply below_alloc | apply pw_below_drewN | apply below_drew1 | refine below_set ?_ GE141.out) | exact HB.out)⟩

end Go.Proofs.Ytpjljhiohimgcaa.QB
