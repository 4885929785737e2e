/- The law DiskKeeps: in plain words, and its walk. -/
import Derived.Test.YtlngljhinboglaaDkQ
import Derived.Test.YtlngljhinboglaaDkL
namespace Go.Proofs.Ytlngljhinboglaa.LwDiskKeeps
open Go.RowKit Go.WideMaps Go.ChangeMaps Go.MapKept Go.Maps Go.Lib Go.Proofs.YtlngljhinboglaaW.PrintWords Go.Proofs.YtlngljhinboglaaW.PrintLast Go.Proofs.YtlngljhinboglaaW.PrintMore Go.Proofs.Ytlngljhinboglaa.Sl Go.Proofs.Ytlngljhinboglaa.DkP Go.Proofs.Ytlngljhinboglaa.DkS Go.Proofs.Ytlngljhinboglaa.DkW Go.Proofs.Ytlngljhinboglaa.DkT Go.Proofs.Ytlngljhinboglaa.DkV Go.Proofs.Ytlngljhinboglaa.DkC Go.Proofs.Ytlngljhinboglaa.DkM Go.Proofs.Ytlngljhinboglaa.DkN Go.Proofs.Ytlngljhinboglaa.DkO Go.Proofs.Ytlngljhinboglaa.DkQ Go.Proofs.Ytlngljhinboglaa.DkL
set_option linter.unusedVariables false
set_option linter.unusedSimpArgs false
abbrev old : ByteArray := ⟨#[111, 108, 100]⟩
abbrev there : ByteArray := ⟨#[116, 104, 101, 114, 101]⟩
abbrev ten : ByteArray := ⟨#[48, 49, 50, 51, 52, 53, 54, 55, 56, 57]⟩
theorem crashF_snoc (keep part : Int) (c : Ch) : ∀ (r : List Ch) (i : Nat) (l : FS Cnt), (i : Int) ≤ keep → crashF keep part i (r ++ [c]) l =
    if ((i + r.length : Nat) : Int) < keep then c.go c.size (crashF keep part i r l) else if ((i + r.length : Nat) : Int) = keep ∧ c.isApp = true ∧ 0 < part then c.go (min part (c.size : Int)).toNat (crashF keep part i r l) else crashF keep part i r l
  | [], i, l, h => by
    simp only [List.nil_append, List.length_nil, Nat.add_zero, crashF]
    by_cases h1 : (i : Int) < keep
    · rw [if_pos h1, if_pos h1]
    · rw [if_neg h1, if_neg h1]
      have h2 : (i : Int) = keep := by omega
      by_cases h3 : c.isApp = true ∧ 0 < part
      · rw [if_pos h3, if_pos ⟨h2, h3⟩]
      · rw [if_neg h3, if_neg (fun h => h3 h.2)]
  | d :: r, i, l, h => by
    rw [List.cons_append, crashF, crashF]
    by_cases h1 : (i : Int) < keep
    · rw [if_pos h1, if_pos h1, crashF_snoc keep part c r (i + 1) (d.go d.size l) (by omega)]
      have e : i + 1 + r.length = i + (d :: r).length := by rw [List.length_cons]; omega
      rw [e]
    · rw [if_neg h1, if_neg h1, if_neg (show ¬ ((i + (d :: r).length : Nat) : Int) < keep by rw [List.length_cons]; omega), if_neg (show ¬ (((i + (d :: r).length : Nat) : Int) = keep ∧ c.isApp = true ∧ 0 < part) from fun h2 => by have := h2.1; rw [List.length_cons] at this; omega)]
def Keys (f : FS Cnt) : Prop := ∀ p ∈ f, p.1.length ≤ 40
theorem Keys.app {f : FS Cnt} (h : Keys f) {x s : ByteArray} (hx : fits x = true) (n : Nat) : Keys ((Ch.app x s).go n f) := fun p hp => by
  rcases mem_put hp with rfl | hp
  · have := fits_le hx
    have e : (nm x).length = x.size := by unfold nm; rw [Array.length_toList]; rfl
    simp only
    omega
  · exact h p hp
theorem meas {q j : Nat} (h : j < q) : ((q : Int) - ((j : Int) + 1)).toNat < ((q : Int) - (j : Int)).toNat := by omega
theorem succV (j : Nat) : Value.int .i64 ((j : Int) + 1) = Value.int .i64 ((j + 1 : Nat) : Int) := by rw [Int.natCast_add, Int.natCast_one]
/-- Both disks, behind i names, of which n were names of files. -/
structure Two (keep part : Int) (d c : DS) (n i : Nat) : Prop where
  ld : Live 65536 d (2 + i) (5 + 10 * i)
  lc : Live 65536 c (1 + i) (5 + 10 * i)
  np : d.pend.length = n
  le : n ≤ i
  eq : c.files = crashF keep part 0 d.pend d.lasting
  ks : Keys c.files
theorem two_start (keep part : Int) (hk : 0 ≤ keep) : Two keep part ((DS.new 65536).append old there).1.sync.1 ((DS.new 65536).append old there).1 0 0 ∧ ((DS.new 65536).append old there).1.sync.2 = 0 ∧ Live 65536 ((DS.new 65536).append old there).1 1 5 := by
  have h0 : Live 65536 (DS.new 65536) 0 0 := Live.start (by omega) rfl
  obtain ⟨_, h2, _, _⟩ := h0.yes (a := old) (s := there) (by decide) (by decide) (show ((tot [] : Nat) : Int) + there.size ≤ 65536 by decide)
  have h3 : Live 65536 ((DS.new 65536).append old there).1 1 5 := h2
  refine ⟨⟨h3.sync_live, h3, ?_, Nat.le_refl _, ?_, ?_⟩, ?_, h3⟩
  · rw [h3.sync]; rfl
  · rw [h3.sync]; rfl
  · rw [h0.app (a := old) (s := there) (by decide) (by decide), h0.change]
    exact Keys.app (fun p hp => by cases hp) (by decide) _
  · rw [h3.sync]
theorem go_cut {x : ByteArray} {m : Nat} (hm : m ≤ 10) (l : FS Cnt) : (Ch.app x (ten.extract 0 m)).go (ten.extract 0 m).size l = (Ch.app x ten).go m l := by
  simp only [Ch.go]
  have hs : (ten.extract 0 m).size = m := by rw [ByteArray.size_extract]; have : ten.size = 10 := rfl; omega
  have h2 : (ten.extract 0 m).data.toList = ten.data.toList.take m := extract_list ten m
  rw [hs, h2, List.take_take, Nat.min_self]
section
variable {keep part : Int} {d c : DS} {n i : Nat}
theorem Two.skip (h : Two keep part d c n i) : Two keep part d c n (i + 1) := ⟨h.ld.mono (by omega) (by omega), h.lc.mono (by omega) (by omega), h.np, by have := h.le; omega, h.eq, h.ks⟩
theorem Two.dapp (h : Two keep part d c n i) (hi : i ≤ 128) {x : ByteArray} (hf : fits x = true) : d.append x ten = ({ d with ops := d.ops + 1, pend := d.pend ++ [.app x ten], files := (Ch.app x ten).go 10 d.files }, 0) ∧ Live 65536 (d.append x ten).1 (2 + (i + 1)) (5 + 10 * (i + 1)) := by
  have ht := h.ld.ok.tf
  have hz : ten.size = 10 := rfl
  obtain ⟨_, h2, _, _⟩ := h.ld.yes hf (s := ten) (by decide) (by rw [hz]; omega)
  refine ⟨?_, h2.mono (by omega) (by rw [hz]; omega)⟩
  rw [h.ld.app hf (by rw [hz]; omega), h.ld.change]
  rfl
theorem Two.more (h : Two keep part d c n i) (hk : 0 ≤ keep) (hi : i ≤ 128) {x : ByteArray} (hf : fits x = true) (hn : (n : Int) < keep) : Two keep part (d.append x ten).1 (c.append x ten).1 (n + 1) (i + 1) := by
  obtain ⟨h1, h2⟩ := h.dapp hi hf
  have ht := h.lc.ok.tf
  have hz : ten.size = 10 := rfl
  obtain ⟨_, h3, _, _⟩ := h.lc.yes hf (s := ten) (by decide) (by rw [hz]; omega)
  have h4 : (c.append x ten).1.files = (Ch.app x ten).go 10 c.files := by
    rw [h.lc.app hf (by rw [hz]; omega), h.lc.change]
    rfl
  refine ⟨h2, h3.mono (by omega) (by rw [hz]; omega), ?_, by have := h.le; omega, ?_, by rw [h4]; exact h.ks.app hf _⟩
  · rw [h1]; simp [h.np]
  · rw [h4, h1]
    simp only
    rw [crashF_snoc keep part _ d.pend 0 d.lasting (by omega), if_pos (by rw [Nat.zero_add, h.np]; exact hn), h.eq]
    rfl
theorem Two.some (h : Two keep part d c n i) (hk : 0 ≤ keep) (hi : i ≤ 128) {x : ByteArray} (hf : fits x = true) (hn : (n : Int) = keep) (hp : 0 < part) {m : Nat} (hm : min part 10 = (m : Int)) : Two keep part (d.append x ten).1 (c.append x (ten.extract 0 m)).1 (n + 1) (i + 1) := by
  obtain ⟨h1, h2⟩ := h.dapp hi hf
  have ht := h.lc.ok.tf
  have hz : ten.size = 10 := rfl
  have hs : (ten.extract 0 m).size = m := by rw [ByteArray.size_extract]; omega
  obtain ⟨_, h3, _, _⟩ := h.lc.yes hf (s := ten.extract 0 m) (by omega) (by omega)
  have h4 : (c.append x (ten.extract 0 m)).1.files = (Ch.app x ten).go m c.files := by
    rw [h.lc.app hf (by omega), h.lc.change]
    exact go_cut (by omega) c.files
  refine ⟨h2, h3.mono (by omega) (by omega), ?_, by have := h.le; omega, ?_, by rw [h4]; exact h.ks.app hf _⟩
  · rw [h1]; simp [h.np]
  · rw [h4, h1]
    simp only
    rw [crashF_snoc keep part _ d.pend 0 d.lasting (by omega), if_neg (by rw [Nat.zero_add, h.np]; omega), if_pos ⟨by rw [Nat.zero_add, h.np]; exact hn, rfl, hp⟩, h.eq]
    have e : (min part ((Ch.app x ten).size : Int)).toNat = m := by
      have : ((Ch.app x ten).size : Int) = 10 := rfl
      rw [this, hm, Int.toNat_natCast]
    rw [e]
theorem Two.none (h : Two keep part d c n i) (hk : 0 ≤ keep) (hi : i ≤ 128) {x : ByteArray} (hf : fits x = true) (hn : ¬ (n : Int) < keep) (hp : ¬ ((n : Int) = keep ∧ 0 < part)) : Two keep part (d.append x ten).1 c (n + 1) (i + 1) := by
  obtain ⟨h1, h2⟩ := h.dapp hi hf
  refine ⟨h2, h.lc.mono (by omega) (by omega), ?_, by have := h.le; omega, ?_, h.ks⟩
  · rw [h1]; simp [h.np]
  · rw [h1, h.eq]
    simp only
    rw [crashF_snoc keep part _ d.pend 0 d.lasting (by omega), if_neg (by rw [Nat.zero_add, h.np]; exact hn), if_neg (by rw [Nat.zero_add, h.np]; exact fun h => hp ⟨h.1, h.2.2⟩)]
theorem Two.crash (h : Two keep part d c n i) : (d.crash keep part).files = c.files ∧ (d.crash keep part).pend = [] ∧ (d.crash keep part).dead = true := by
  unfold DS.crash
  rw [if_neg (by rw [h.ld.de]; simp)]
  exact ⟨h.eq.symm, rfl, rfl⟩
end
theorem at_str {w : World} {A : Option Addr} {n : Nat} {xs : List ByteArray} (h : Kd.C Kd.string w A n xs) (i : Nat) (h1 : i < n) : ∃ ad, A = some ad ∧ w.cell? (ad.add i) = some (.string (xs.getD i ByteArray.empty)) := by
  obtain ⟨ad, c, e, _, hK, hc0⟩ := Kd.C_get h ByteArray.empty (i : Int) (by omega) (by omega)
  rw [Int.toNat_natCast] at hK hc0
  have hK2 : c = [.string (xs.getD i ByteArray.empty)] := hK
  have hc : ∀ j u, c[j]? = Option.some u → w.cell? (ad.add (i * 1 + j)) = Option.some u := hc0
  subst hK2
  have := hc 0 _ rfl
  rw [Nat.mul_one] at this
  exact ⟨ad, e, this⟩
theorem names_le {f : FS Cnt} (h : Keys f) : ∀ z ∈ names f, z.size ≤ maxLen := fun z hz => by
  obtain ⟨p, hp, rfl⟩ := List.mem_map.1 hz
  have := h p hp
  have e : (⟨p.1.toArray⟩ : ByteArray).size = p.1.length := rfl
  have hm : maxLen = 9223372036854775807 := rfl
  omega
theorem cell_below {W w' : World} {a : Addr} {v : Value} (hq : W.cell? a = Option.some v) (hb : Below W.heap.size W w') : w'.cell? a = Option.some v := by
  have hlt : a.block < W.heap.size := by
    unfold World.cell? at hq
    split at hq
    · rename_i heq
      exact (Array.getElem?_eq_some_iff.1 heq).1
    · cases hq
  rw [World.cell?_of_block (hb.block a.block hlt)]
  exact hq
def Kp.T20 : Bool × List (List Nat × List Nat) := (true, [([], []), ([], []), ([], []), ([1, 2], [1, 2]), ([3], [3]), ([], []), ([], []), ([6], [6]), ([7], [7]), ([5, 8], [5, 8]), ([0, 4, 9], [0, 4, 9])])
def Kp.B20 : List Nat := [0, 0, 0, 6, 14, 0, 0, 64, 192, 480, 1023]
theorem Kp.tab20 : rtab .any (opsOf Try.f6 20) = Kp.T20 := by kernel_rfl
theorem Kp.bits20 : waitsOk Kp.T20.2 Kp.B20 = true := by kernel_rfl
def Kp.T32 : Bool × List (List Nat × List Nat) := (true, [([], []), ([], []), ([0, 1], [0, 1]), ([2], [2]), ([], []), ([], []), ([4, 5], [4, 5]), ([6], [6]), ([3, 7], [3, 7]), ([8], [8]), ([9], [9]), ([9], [9]), ([10, 11, 9], [9, 10, 11]), ([9, 12], [9, 12])])
def Kp.B32 : List Nat := [0, 0, 3, 7, 0, 0, 48, 112, 255, 511, 1023, 1023, 4095, 8191]
theorem Kp.tab32 : rtab .any (opsOf Try.f6 32) = Kp.T32 := by kernel_rfl
theorem Kp.bits32 : waitsOk Kp.T32.2 Kp.B32 = true := by kernel_rfl
set_option maxHeartbeats 16000000 in
set_option maxRecDepth 100000 in
theorem DiskKeeps_calls (W : World) (a0 : Option Addr) (cap0 : Nat) (l0 : List ByteArray) (hc0 : l0.length ≤ cap0) (hr0 : Kd.C Kd.string W a0 l0.length l0) (hw0 : ∀ x ∈ l0, x.size ≤ maxLen) (hs0 : l0.length * 16 ≤ 140737488351232) (keep : Int) (wk : (Lit.int .u8 keep).wf = true) (part : Int) (wp : (Lit.int .u8 part).wf = true) :
    Calls Try.prog 6 #[.slice a0 l0.length cap0, .int .u8 keep, .int .u8 part] W fun e w' => e = .returned (.bool true) ∧ Below W.heap.size W w' := by
  by_cases hl : l0.length ≤ 128
  rotate_left
  · have d1 : decide ((128 : Int) < (l0.length : Int)) = true := decide_eq_true (by omega)
    have d2 : decide (128 < l0.length) = true := decide_eq_true (by omega)
    go_enter Try.func6, Try.ntmps6
    go_wp2
    go_ret
    exact ⟨rfl, Below.refl _ _⟩
  have d1 : decide ((128 : Int) < (l0.length : Int)) = false := decide_eq_false (by omega)
  have d2 : decide (128 < l0.length) = false := decide_eq_false (by omega)
  have hk : 0 ≤ keep ∧ keep < 256 := by
    simp [Lit.wf, IntKind.min, IntKind.max, IntKind.signed, IntKind.bits] at wk
    omega
  have hp : 0 ≤ part ∧ part < 256 := by
    simp [Lit.wf, IntKind.min, IntKind.max, IntKind.signed, IntKind.bits] at wp
    omega
  have ek : IntKind.i64.wrap keep = keep := by rw [IntKind.wrap_i64]; omega
  have ep : IntKind.i64.wrap part = part := by rw [IntKind.wrap_i64]; omega
  obtain ⟨t0, t1, t2⟩ := two_start keep part hk.1
  obtain ⟨c0, hc0'⟩ : ∃ c0, ((DS.new 65536).append old there).1 = c0 := ⟨_, rfl⟩
  rw [hc0'] at t0 t1 t2
  have HC0 := Aside0.mk hc0'
  have T0 := Aside0.mk t0
  have T1 := Aside0.mk t1
  have T2 := Aside0.mk t2
  have HL0 := Aside0.mk (show Live 65536 (DS.new 65536) 0 0 from Live.start (by omega) rfl)
  obtain ⟨m, hm⟩ : ∃ m, l0.length = m := ⟨_, rfl⟩
  have HC := Aside0.mk hr0
  have HW := Aside0.mk hw0
  have HM := Aside0.mk hm
  rw [hm] at HC hl d1 d2 hc0 ⊢
  clear hr0 hw0 hs0 hm wk wp t0 t1 t2 hc0'
  go_enter Try.func6, Try.ntmps6
  go_upto_region 4 with (first | (go_at_call 8; go_loud ((with_reducible refine (New_calls W W [] 65536 (Sat.start W)).mono ?_); rintro e w1 ⟨g, rfl, hs1⟩; have H1 := Aside0.mk hs1; clear hs1)))
  go_upto_region 5 with (first | (go_at_call 8; go_loud ((with_reducible refine (New_calls W w1 _ 65536 H1.out).mono ?_); rintro e w2 ⟨h, rfl, hs2⟩; have H2 := Aside0.mk (show Sat W w2 (Dk g (DS.new 65536) :: Dk h (DS.new 65536) :: []) from hs2.nth 1 rfl); clear hs2)))
  go_upto_region 6 with (first | (go_at_call 10; go_loud ((with_reducible refine (Append_calls W w2 _ g (DS.new 65536) 0 0 old there (by omega) (by omega) (by decide) (by decide) HL0.out.ok H2.out).mono ?_); rintro e w3 ⟨rfl, hs3⟩; rw [HC0.out] at hs3; have H3 := Aside0.mk (show Sat W w3 (Dk h (DS.new 65536) :: Dk g c0 :: []) from hs3.nth 1 rfl); clear hs3)))
  go_upto_region 7 with (first | (go_at_call 10; go_loud ((with_reducible refine (Append_calls W w3 _ h (DS.new 65536) 0 0 old there (by omega) (by omega) (by decide) (by decide) HL0.out.ok H3.out).mono ?_); rintro e w4 ⟨rfl, hs4⟩; rw [HC0.out] at hs4; have H4 := Aside0.mk (show Sat W w4 (Dk g c0 :: Dk h c0 :: []) from hs4.nth 1 rfl); clear hs4)))
  go_upto_region 9 with (first | (go_at_call 20; go_loud ((with_reducible refine (Sync_calls W w4 _ g c0 1 5 (by omega) (by omega) T2.out.ok H4.out).mono ?_); rintro e w5 ⟨rfl, hs5⟩; rw [T1.out]; have H5 := Aside0.mk hs5; clear hs5)))
  clear d1 d2 H1 H2 H3 H4
  go_wp2
  go_loopw [9, 10] (fun v9 v10 wr => ∃ (n i : Nat) (d c : DS), i ≤ m ∧ v9 = .int .i64 n ∧ v10 = .int .i64 i ∧ Aside0 (Two keep part d c n i) ∧ Aside0 (Sat W wr (Dk g d :: Dk h c :: []))) (fun _ v10 _ => (m - intOf v10).toNat)
  case atStart => exact ⟨0, 0, _, _, Nat.zero_le _, rfl, rfl, T0, H5⟩
  case round =>
    obtain ⟨n, i, d, c, him, rfl, rfl, HI, HS⟩ := hrel
    clear H5 T0 T1 T2 HC0 HL0
    by_cases hi : i < m
    rotate_left
    · have e1 : decide ((i : Int) < (m : Int)) = false := decide_eq_false (by omega)
      have e2 : decide (i < m) = false := decide_eq_false hi
      have HLD := Aside0.mk HI.out.ld
      have HLC := Aside0.mk HI.out.lc
      have hiN : i ≤ 128 := by omega
      obtain ⟨r1, r2, r3⟩ := HI.out.crash
      obtain ⟨r, hr⟩ : ∃ r, d.crash keep part = r := ⟨_, rfl⟩
      rw [hr] at r1 r2 r3
      have HR := Aside0.mk hr
      have R1 := Aside0.mk r1
      have R2 := Aside0.mk (show ((r.pend.length : Nat) : Int) = 0 from by rw [r2]; rfl)
      have R3 := Aside0.mk r3
      have HRF := Aside0.mk (show Rising r.files ∧ r.files.length ≤ 1000000 from by rw [r1]; exact ⟨HLC.out.ok.rf, by have := HLC.out.ok.nf; omega⟩)
      have HCF := Aside0.mk (show Rising c.files ∧ c.files.length ≤ 1000000 from ⟨HLC.out.ok.rf, by have := HLC.out.ok.nf; omega⟩)
      clear r1 r2 r3 hr
      go_upto_region 23 with (first | (go_at_call 23; go_loud ((with_reducible refine (crash_calls W wr _ g d (2 + i) (5 + 10 * i) keep part (by omega) (by omega) HLD.out.ok HS.out).mono ?_); rintro e w6 ⟨rfl, hs6⟩; rw [HR.out] at hs6; have H6 := Aside0.mk (show Sat W w6 (Dk g r :: Dk h c :: []) from hs6); clear hs6)))
      go_upto_region 24 with (first | (go_at_call 26; go_loud ((with_reducible refine (Names_calls W w6 _ g r HRF.out.1 HRF.out.2 H6.out).mono ?_); rintro e w7 ⟨v, rfl, hv, hb7⟩; obtain ⟨A7, c7, rfl, hc7, hC7⟩ := Kd.R_reads hv; have V7 := Aside0.mk hC7; have H7 := Aside0.mk (H6.out.step hb7); clear hv hb7 hC7)))
      go_upto_region 25 with (first | (go_at_call 26; go_loud ((with_reducible refine (Names_calls W w7 _ h c HCF.out.1 HCF.out.2 (H7.out.nth 1 rfl)).mono ?_); rintro e w8 ⟨v, rfl, hv, hb8⟩; obtain ⟨A8, c8, rfl, hc8, hC8⟩ := Kd.R_reads hv; have V8 := Aside0.mk hC8; have V7b := Aside0.mk (Kd.C_below V7.out hb8); have H8 := Aside0.mk (H7.out.step hb8); clear hv hb8 hC8)))
      have hnn : names r.files = names c.files := by rw [R1.out]
      rw [hnn] at V7b hc7 ⊢
      have HNF := Aside0.mk (show (names c.files).length ≤ 1000000 from by unfold names; rw [List.length_map]; exact HCF.out.2)
      have HSZ := Aside0.mk (show ∀ z ∈ names c.files, z.size ≤ maxLen from names_le HI.out.ks)
      obtain ⟨F, hF⟩ : ∃ F, names c.files = F := ⟨_, rfl⟩
      rw [hF] at V7b V8 hc7 hc8 HNF HSZ ⊢
      obtain ⟨q, hq⟩ : ∃ q, F.length = q := ⟨_, rfl⟩
      have HQ := Aside0.mk hq
      rw [hq] at V7b V8 hc7 hc8 HNF ⊢
      clear V7 H6 H7 hnn hF hq
      have hqN : q ≤ 1000000 := HNF.out
      go_upto_region 27 with (first | (go_at_call 11; go_loud ((with_reducible refine (Pending_calls W w8 _ g r H8.out).mono ?_); rintro e w9 ⟨rfl, hw9⟩; rw [hw9, R2.out]; clear hw9 w9)) | (go_at_call 12; go_loud ((with_reducible refine (Dead_calls W w8 _ g r H8.out).mono ?_); rintro e w9 ⟨rfl, hw9⟩; rw [hw9, R3.out]; clear hw9 w9)))
      go_wp2
      go_loopw [14] (fun v14 ws => ∃ (j : Nat), j ≤ q ∧ v14 = .int .i64 j ∧ ws.heap = w8.heap ∧ Aside0 (Below w8.heap.size w8 ws)) (fun v14 _ => (q - intOf v14).toNat)
      case atStart => exact ⟨0, Nat.zero_le _, rfl, rfl, ⟨Below.refl _ _⟩⟩
      case round =>
        obtain ⟨j, hjq, rfl, hhp, HBj⟩ := hrel
        by_cases hj : j < q
        rotate_left
        · have g1 : decide ((j : Int) < (q : Int)) = false := decide_eq_false (by omega)
          have g2 : decide (j < q) = false := decide_eq_false hj
          have HBE := Aside0.mk ((H8.out.step HBj.out).below)
          go_wp2
          go_ret
          exact ⟨rfl, HBE.out⟩
        have g1 : decide ((j : Int) < (q : Int)) = true := decide_eq_true (by omega)
        have g2 : decide (j < q) = true := decide_eq_true hj
        have j1 : (0 : Int) ≤ (j : Int) := by omega
        have j2 : (j : Int) < (q : Int) := by omega
        obtain ⟨ad1, hA1, p1⟩ := at_str (Kd.C_below V7b.out HBj.out) j hj
        obtain ⟨ad2, hA2, p2⟩ := at_str (Kd.C_below V8.out HBj.out) j hj
        subst hA1 hA2
        have HX := Aside0.mk (show (F.getD j ByteArray.empty).size ≤ maxLen from by
          rw [List.getD_eq_getElem?_getD, List.getElem?_eq_getElem (by rw [HQ.out]; exact hj)]
          exact HSZ.out _ (List.getElem_mem _))
        generalize F.getD j ByteArray.empty = x at p1 p2 HX
        have HSj := Aside0.mk (H8.out.step HBj.out)
        have HRR := Aside0.mk (show (get (nm x) r.files) = get (nm x) c.files from by rw [R1.out])
        obtain ⟨gs, hgs⟩ : ∃ gs : ByteArray, (⟨((get (nm x) c.files).getD []).toArray⟩ : ByteArray) = gs := ⟨_, rfl⟩
        have HGS := Aside0.mk hgs
        clear hgs ek ep
        go_upto_region 31 with (first | (go_at_call 25; go_loud ((with_reducible refine (Read_calls W wr _ g r x HX.out HSj.out).mono ?_); rintro e w9 ⟨rfl, hw9⟩; rw [hw9, HRR.out, HGS.out]; clear hw9 w9)))
        go_upto_region 32 with (first | (go_at_call 25; go_loud ((with_reducible refine (Read_calls W wr _ h c x HX.out (HSj.out.nth 1 rfl)).mono ?_); rintro e w9 ⟨rfl, hw9⟩; rw [hw9, HGS.out]; clear hw9 w9)))
        refine start_ (n := 14) (S := fun w' => w'.cell? (ad1.add j) = some (.string x) ∧ w'.cell? (ad2.add j) = some (.string x)) (ds := []) #[false, false, false, false, false, false, false, false, false, false, false, false, false, false] (by kernel_rfl) rfl rfl ⟨p1, p2⟩ (fun hHeld => ?_)
        refine with_tabW Kp.tab32 Kp.bits32 (fun HT_ HW_ => ?_)
        refine pure_ (i := 0) (N := some 138) (v := ?_) (a' := ?_) #[true, false, false, false, false, false, false, false, false, false, false, false, false, false] rfl rfl (any_of HT_.out (by kernel_rfl)) (fun _ _ _ h => h) (Or.inl ⟨by rfl, ?_⟩) ?_ ?_
        rotate_left
        · intro w'
          go_simp
          with_reducible rfl
        rotate_left
        · simp only [Act.put, List.setIfInBounds_toArray, List.set_cons_zero, List.set_cons_succ, i64_w, i32_w]
          rfl
        refine pure_ (i := 1) (N := some 139) (v := ?_) (a' := ?_) #[true, true, false, false, false, false, false, false, false, false, false, false, false, false] rfl rfl (any_of HT_.out (by kernel_rfl)) (fun _ _ _ h => h) (Or.inl ⟨by rfl, ?_⟩) ?_ ?_
        rotate_left
        · intro w'
          go_simp
          with_reducible rfl
        rotate_left
        · simp only [Act.put, List.setIfInBounds_toArray, List.set_cons_zero, List.set_cons_succ, i64_w, i32_w]
          rfl
        refine pure_ (i := 2) (N := some 140) (v := ?_) (a' := ?_) #[true, true, true, false, false, false, false, false, false, false, false, false, false, false] rfl rfl (any_of HT_.out (by kernel_rfl)) (fun _ _ _ h => h) (Or.inl ⟨by rfl, ?_⟩) ?_ ?_
        rotate_left
        · intro w'
          go_simp
          with_reducible rfl
        rotate_left
        · simp only [Act.put, List.setIfInBounds_toArray, List.set_cons_zero, List.set_cons_succ, i64_w, i32_w]
          rfl
        refine pure_ (i := 4) (N := some 142) (v := ?_) (a' := ?_) #[true, true, true, false, true, false, false, false, false, false, false, false, false, false] rfl rfl (any_of HT_.out (by kernel_rfl)) (fun _ _ _ h => h) (Or.inl ⟨by rfl, ?_⟩) ?_ ?_
        rotate_left
        · intro w'
          go_simp
          with_reducible rfl
        rotate_left
        · simp only [Act.put, List.setIfInBounds_toArray, List.set_cons_zero, List.set_cons_succ, i64_w, i32_w]
          rfl
        refine pure_ (i := 5) (N := some 143) (v := ?_) (a' := ?_) #[true, true, true, false, true, true, false, false, false, false, false, false, false, false] rfl rfl (any_of HT_.out (by kernel_rfl)) (fun _ _ _ h => h) (Or.inl ⟨by rfl, ?_⟩) ?_ ?_
        rotate_left
        · intro w'
          go_simp
          with_reducible rfl
        rotate_left
        · simp only [Act.put, List.setIfInBounds_toArray, List.set_cons_zero, List.set_cons_succ, i64_w, i32_w]
          rfl
        refine pure_ (i := 6) (N := some 144) (v := ?_) (a' := ?_) #[true, true, true, false, true, true, true, false, false, false, false, false, false, false] rfl rfl (any_of HT_.out (by kernel_rfl)) (fun _ _ _ h => h) (Or.inl ⟨by rfl, ?_⟩) ?_ ?_
        rotate_left
        · intro w'
          go_simp
          with_reducible rfl
        rotate_left
        · simp only [Act.put, List.setIfInBounds_toArray, List.set_cons_zero, List.set_cons_succ, i64_w, i32_w]
          rfl
        refine take_ (i := 3) (N := some 141) (v := ?_) (a' := ?_) #[true, true, true, true, true, true, true, false, false, false, false, false, false, false] rfl rfl (take_ofW HT_.out HW_.out (by kernel_rfl)) (fun _ _ _ h => h) (Or.inl ⟨by rfl, ?_⟩) hHeld ?_ ?_
        rotate_left
        · rintro w' ⟨s0, s1⟩
          go_simp
          with_reducible rfl
        rotate_left
        · simp only [Act.put, List.setIfInBounds_toArray, List.set_cons_zero, List.set_cons_succ, i64_w, i32_w]
          rfl
        refine take_ (i := 7) (N := some 145) (v := ?_) (a' := ?_) #[true, true, true, true, true, true, true, true, false, false, false, false, false, false] rfl rfl (take_ofW HT_.out HW_.out (by kernel_rfl)) (fun _ _ _ h => h) (Or.inl ⟨by rfl, ?_⟩) hHeld ?_ ?_
        rotate_left
        · rintro w' ⟨s0, s1⟩
          go_simp
          with_reducible rfl
        rotate_left
        · simp only [Act.put, List.setIfInBounds_toArray, List.set_cons_zero, List.set_cons_succ, i64_w, i32_w]
          rfl
        refine pure_ (i := 8) (N := some 146) (v := ?_) (a' := ?_) #[true, true, true, true, true, true, true, true, true, false, false, false, false, false] rfl rfl (any_of HT_.out (by kernel_rfl)) (fun _ _ _ h => h) (Or.inl ⟨by rfl, ?_⟩) ?_ ?_
        rotate_left
        · intro w'
          go_simp
          with_reducible rfl
        rotate_left
        · simp only [Act.put, List.setIfInBounds_toArray, List.set_cons_zero, List.set_cons_succ, i64_w, i32_w]
          rfl
        refine pure_ (i := 9) (N := some 147) (v := ?_) (a' := ?_) #[true, true, true, true, true, true, true, true, true, true, false, false, false, false] rfl rfl (any_of HT_.out (by kernel_rfl)) (fun _ _ _ h => h) (Or.inl ⟨by rfl, ?_⟩) ?_ ?_
        rotate_left
        · intro w'
          go_simp
          with_reducible rfl
        rotate_left
        · simp only [Act.put, List.setIfInBounds_toArray, List.set_cons_zero, List.set_cons_succ, i64_w, i32_w]
          rfl
        refine pure_ (i := 10) (N := some 148) (v := ?_) (a' := ?_) #[true, true, true, true, true, true, true, true, true, true, true, false, false, false] rfl rfl (any_of HT_.out (by kernel_rfl)) (fun _ _ _ h => h) (Or.inl ⟨by rfl, ?_⟩) ?_ ?_
        rotate_left
        · intro w'
          go_simp
          with_reducible rfl
        rotate_left
        · simp only [Act.put, List.setIfInBounds_toArray, List.set_cons_zero, List.set_cons_succ, i64_w, i32_w]
          rfl
        refine pure_ (i := 11) (N := some 149) (v := ?_) (a' := ?_) #[true, true, true, true, true, true, true, true, true, true, true, true, false, false] rfl rfl (any_of HT_.out (by kernel_rfl)) (fun _ _ _ h => h) (Or.inl ⟨by rfl, ?_⟩) ?_ ?_
        rotate_left
        · intro w'
          go_simp
          with_reducible rfl
        rotate_left
        · simp only [Act.put, List.setIfInBounds_toArray, List.set_cons_zero, List.set_cons_succ, i64_w, i32_w]
          rfl
        refine pure_ (i := 12) (N := some 150) (v := ?_) (a' := ?_) #[true, true, true, true, true, true, true, true, true, true, true, true, true, false] rfl rfl (any_of HT_.out (by kernel_rfl)) (fun _ _ _ h => h) (Or.inl ⟨by rfl, ?_⟩) ?_ ?_
        rotate_left
        · intro w'
          go_simp
          with_reducible rfl
        rotate_left
        · simp only [Act.put, List.setIfInBounds_toArray, List.set_cons_zero, List.set_cons_succ, i64_w, i32_w]
          rfl
        refine pure_ (i := 13) (N := some 151) (v := ?_) (a' := ?_) #[true, true, true, true, true, true, true, true, true, true, true, true, true, true] rfl rfl (any_of HT_.out (by kernel_rfl)) (fun _ _ _ h => h) (Or.inl ⟨by rfl, ?_⟩) ?_ ?_
        rotate_left
        · intro w'
          go_simp
          with_reducible rfl
        rotate_left
        · simp only [Act.put, List.setIfInBounds_toArray, List.set_cons_zero, List.set_cons_succ, i64_w, i32_w]
          rfl
        refine done_ (done_of HT_.out (by kernel_rfl)) ?_
        go_wp2
        go_roundw
        case measure => simp only [intOf]; exact meas hj
        case rel => exact ⟨j + 1, hj, succV j, hhp, ⟨below_drew HBj.out⟩⟩
    have e1 : decide ((i : Int) < (m : Int)) = true := decide_eq_true (by omega)
    have e2 : decide (i < m) = true := decide_eq_true hi
    have i1 : (0 : Int) ≤ (i : Int) := by omega
    have i2 : (i : Int) < (m : Int) := by omega
    have ew : wrap64 ((i : Int) + 1) = ((i + 1 : Nat) : Int) := by unfold wrap64; omega
    have en : wrap64 ((n : Int) + 1) = ((n + 1 : Nat) : Int) := by have := HI.out.le; unfold wrap64; omega
    obtain ⟨ad, hA, qw⟩ := at_str HC.out i hi
    subst hA
    have HX := Aside0.mk (show (l0.getD i ByteArray.empty).size ≤ maxLen from by
      rw [List.getD_eq_getElem?_getD, List.getElem?_eq_getElem (by have := HM.out; omega)]
      exact HW.out _ (List.getElem_mem _))
    generalize l0.getD i ByteArray.empty = x at qw HX
    have q0 := cell_below qw HS.out.below
    have QW := Aside0.mk qw
    clear qw
    have hiN : i ≤ 128 := by omega
    by_cases hf : fits x = true
    rotate_left
    · have hor : x.size < 1 ∨ (¬ x.size < 1 ∧ 40 < x.size) := by
        unfold fits at hf
        rw [decide_eq_true_iff] at hf
        omega
      rcases hor with hz | ⟨hz1, hz2⟩
      · have k1 : decide ((x.size : Int) < 1) = true := decide_eq_true (by omega)
        clear hf hz
        go_wp2
        go_roundw
        case measure => simp only [intOf, ew]; omega
        case rel => exact ⟨n, i + 1, d, c, by omega, rfl, by first | (congr 1; omega) | rfl, ⟨HI.out.skip⟩, HS⟩
      · have k1 : decide ((x.size : Int) < 1) = false := decide_eq_false (by omega)
        have k2 : decide ((40 : Int) < (x.size : Int)) = true := decide_eq_true (by omega)
        clear hf hz1 hz2
        go_wp2
        go_roundw
        case measure => simp only [intOf, ew]; omega
        case rel => exact ⟨n, i + 1, d, c, by omega, rfl, by first | (congr 1; omega) | rfl, ⟨HI.out.skip⟩, HS⟩
    have hxs : 1 ≤ x.size ∧ x.size ≤ 40 := by unfold fits at hf; rw [decide_eq_true_iff] at hf; omega
    have k1 : decide ((x.size : Int) < 1) = false := decide_eq_false (by omega)
    have k2 : decide ((40 : Int) < (x.size : Int)) = false := decide_eq_false (by omega)
    obtain ⟨r, hr⟩ : ∃ r, (d.append x ten).1 = r := ⟨_, rfl⟩
    have HR := Aside0.mk hr
    have HE := Aside0.mk (show (d.append x ten).2 = 0 from by rw [(HI.out.dapp hiN hf).1])
    have HLD := Aside0.mk HI.out.ld
    have HLC := Aside0.mk HI.out.lc
    by_cases hn : (n : Int) < keep
    · have HT := Aside0.mk (show Two keep part r (c.append x ten).1 (n + 1) (i + 1) from by rw [← hr]; exact HI.out.more hk.1 hiN hf hn)
      have k3 : decide ((n : Int) < keep) = true := decide_eq_true hn
      clear hf hxs hr hn
      go_upto_region 16 with (first | (go_at_call 10; go_loud ((with_reducible refine (Append_calls W wr _ g d (2 + i) (5 + 10 * i) x ten (by omega) (by omega) HX.out (by decide) HLD.out.ok HS.out).mono ?_); rintro e w6 ⟨rfl, hs6⟩; rw [HR.out] at hs6; rw [HE.out]; have q1 := cell_below QW.out hs6.below; have HC2 := Aside0.mk (show Sat W w6 (Dk h c :: Dk g r :: []) from hs6.nth 1 rfl); clear hs6)))
      clear q0
      go_wp2_with (first | (go_at_call 10; go_loud ((with_reducible refine (Append_calls W w6 _ h c (1 + i) (5 + 10 * i) x ten (by omega) (by omega) HX.out (by decide) HLC.out.ok HC2.out).mono ?_); rintro e w7 ⟨rfl, hs7⟩; have H7 := Aside0.mk (show Sat W w7 (Dk g r :: Dk h (c.append x ten).1 :: []) from hs7.nth 1 rfl); clear hs7)))
      go_roundw
      case measure => simp only [intOf, ew]; omega
      case rel => exact ⟨n + 1, i + 1, r, _, by omega, by first | rw [en] | (congr 1; omega) | rfl, by first | rw [ew] | (congr 1; omega) | rfl, HT, H7⟩
    · have k3 : decide ((n : Int) < keep) = false := decide_eq_false hn
      by_cases hnk : (n : Int) = keep
      · have k4 : ((n : Int) == keep) = true := beq_iff_eq.2 hnk
        by_cases hp0 : 0 < part
        · have k5 : decide (0 < part) = true := decide_eq_true hp0
          obtain ⟨m10, hm10⟩ : ∃ m10 : Nat, min part 10 = (m10 : Int) := ⟨(min part 10).toNat, by omega⟩
          have hm2 : m10 ≤ 10 := by omega
          have HT := Aside0.mk (show Two keep part r (c.append x (ten.extract 0 m10)).1 (n + 1) (i + 1) from by rw [← hr]; exact HI.out.some hk.1 hiN hf hnk hp0 hm10)
          have hmn : (if 10 < part then (10 : Int) else part) = (m10 : Int) := by split <;> omega
          have HXS := Aside0.mk (show (ten.extract 0 m10).size ≤ 68719476736 from by rw [ByteArray.size_extract]; have : ten.size = 10 := rfl; omega)
          have hm3 : (m10 : Int) ≤ 10 := by omega
          clear hf hxs hr hn
          go_upto_region 20 with (first | (go_at_call 10; go_loud ((with_reducible refine (Append_calls W wr _ g d (2 + i) (5 + 10 * i) x ten (by omega) (by omega) HX.out (by decide) HLD.out.ok HS.out).mono ?_); rintro e w6 ⟨rfl, hs6⟩; rw [HR.out] at hs6; rw [HE.out]; have q1 := cell_below QW.out hs6.below; have HC2 := Aside0.mk (show Sat W w6 (Dk h c :: Dk g r :: []) from hs6.nth 1 rfl); clear hs6)))
          clear q0
          refine start_ (n := 11) (S := fun w' => w'.cell? (ad.add i) = some (.string x)) (ds := [10]) #[false, false, false, false, false, false, false, false, false, false, false] (by kernel_rfl) rfl rfl (q1) (fun hHeld => ?_)
          refine with_tabW Kp.tab20 Kp.bits20 (fun HT_ HW_ => ?_)
          refine pure_ (i := 0) (N := some 76) (v := ?_) (a' := ?_) #[true, false, false, false, false, false, false, false, false, false, false] rfl rfl (any_of HT_.out (by kernel_rfl)) (fun _ _ _ h => h) (Or.inl ⟨by rfl, ?_⟩) ?_ ?_
          rotate_left
          · intro w'
            go_simp
            with_reducible rfl
          rotate_left
          · simp only [Act.put, List.setIfInBounds_toArray, List.set_cons_zero, List.set_cons_succ, i64_w, i32_w]
            rfl
          refine pure_ (i := 1) (N := some 77) (v := ?_) (a' := ?_) #[true, true, false, false, false, false, false, false, false, false, false] rfl rfl (any_of HT_.out (by kernel_rfl)) (fun _ _ _ h => h) (Or.inl ⟨by rfl, ?_⟩) ?_ ?_
          rotate_left
          · intro w'
            go_simp
            with_reducible rfl
          rotate_left
          · simp only [Act.put, List.setIfInBounds_toArray, List.set_cons_zero, List.set_cons_succ, i64_w, i32_w]
            rfl
          refine pure_ (i := 2) (N := some 78) (v := ?_) (a' := ?_) #[true, true, true, false, false, false, false, false, false, false, false] rfl rfl (any_of HT_.out (by kernel_rfl)) (fun _ _ _ h => h) (Or.inl ⟨by rfl, ?_⟩) ?_ ?_
          rotate_left
          · intro w'
            go_simp
            with_reducible rfl
          rotate_left
          · simp only [Act.put, List.setIfInBounds_toArray, List.set_cons_zero, List.set_cons_succ, i64_w, i32_w]
            rfl
          refine pure_ (i := 3) (N := some 79) (v := ?_) (a' := ?_) #[true, true, true, true, false, false, false, false, false, false, false] rfl rfl (any_of HT_.out (by kernel_rfl)) (fun _ _ _ h => h) (Or.inl ⟨by rfl, ?_⟩) ?_ ?_
          rotate_left
          · intro w'
            go_simp
            with_reducible rfl
          rotate_left
          · simp only [Act.put, List.setIfInBounds_toArray, List.set_cons_zero, List.set_cons_succ, i64_w, i32_w]
            rfl
          refine pure_ (i := 5) (N := some 81) (v := ?_) (a' := ?_) #[true, true, true, true, false, true, false, false, false, false, false] rfl rfl (any_of HT_.out (by kernel_rfl)) (fun _ _ _ h => h) (Or.inl ⟨by rfl, ?_⟩) ?_ ?_
          rotate_left
          · intro w'
            go_simp
            with_reducible rfl
          rotate_left
          · simp only [Act.put, List.setIfInBounds_toArray, List.set_cons_zero, List.set_cons_succ, i64_w, i32_w]
            rfl
          refine pure_ (i := 6) (N := some 82) (v := ?_) (a' := ?_) #[true, true, true, true, false, true, true, false, false, false, false] rfl rfl (any_of HT_.out (by kernel_rfl)) (fun _ _ _ h => h) (Or.inl ⟨by rfl, ?_⟩) ?_ ?_
          rotate_left
          · intro w'
            go_simp
            with_reducible rfl
          rotate_left
          · simp only [Act.put, List.setIfInBounds_toArray, List.set_cons_zero, List.set_cons_succ, i64_w, i32_w]
            rfl
          refine pure_ (i := 7) (N := some 83) (v := ?_) (a' := ?_) #[true, true, true, true, false, true, true, true, false, false, false] rfl rfl (any_of HT_.out (by kernel_rfl)) (fun _ _ _ h => h) (Or.inl ⟨by rfl, ?_⟩) ?_ ?_
          rotate_left
          · intro w'
            go_simp
            with_reducible rfl
          rotate_left
          · simp only [Act.put, List.setIfInBounds_toArray, List.set_cons_zero, List.set_cons_succ, i64_w, i32_w]
            rfl
          refine pure_ (i := 8) (N := some 84) (v := ?_) (a' := ?_) #[true, true, true, true, false, true, true, true, true, false, false] rfl rfl (any_of HT_.out (by kernel_rfl)) (fun _ _ _ h => h) (Or.inl ⟨by rfl, ?_⟩) ?_ ?_
          rotate_left
          · intro w'
            go_simp
            with_reducible rfl
          rotate_left
          · simp only [Act.put, List.setIfInBounds_toArray, List.set_cons_zero, List.set_cons_succ, i64_w, i32_w]
            rfl
          refine pure_ (i := 9) (N := some 85) (v := ?_) (a' := ?_) #[true, true, true, true, false, true, true, true, true, true, false] rfl rfl (any_of HT_.out (by kernel_rfl)) (fun _ _ _ h => h) (Or.inl ⟨by rfl, ?_⟩) ?_ ?_
          rotate_left
          · intro w'
            go_simp
            with_reducible rfl
          rotate_left
          · simp only [Act.put, List.setIfInBounds_toArray, List.set_cons_zero, List.set_cons_succ, i64_w, i32_w]
            rfl
          refine take_ (i := 4) (N := some 80) (v := ?_) (a' := ?_) #[true, true, true, true, true, true, true, true, true, true, false] rfl rfl (take_ofW HT_.out HW_.out (by kernel_rfl)) (fun _ _ _ h => h) (Or.inl ⟨by rfl, ?_⟩) hHeld ?_ ?_
          rotate_left
          · intro w' s0
            go_simp
            with_reducible rfl
          rotate_left
          · simp only [Act.put, List.setIfInBounds_toArray, List.set_cons_zero, List.set_cons_succ, i64_w, i32_w]
            rfl
          refine last_ (i := 10) (N := some 86) #[true, true, true, true, true, true, true, true, true, true, true] rfl rfl (one_of HT_.out (by kernel_rfl)) (by decide) (fun K hK => ?_)
          refine goes_ Try.func10 (by kernel_rfl) rfl #[.pointer (some ⟨h, 0, none⟩), .string x, .string (ten.extract 0 m10)] (by rfl) rfl rfl (by simp only [List.map_toArray, List.map_cons, List.map_nil]; rfl) ?_
          with_reducible refine (Append_calls W _ _ h c (1 + i) (5 + 10 * i) x (ten.extract 0 m10) (by omega) (by omega) HX.out HXS.out HLC.out.ok HC2.out.drew).mono ?_
          rintro e w7 ⟨rfl, hs7⟩
          refine ⟨_, rfl, ?_⟩
          have H7 := Aside0.mk hs7
          clear hs7
          refine hK.out _ _ ?_
          clear hK K
          refine norm_ (a' := ?_) ?_ ?_
          rotate_left
          · show Act.put _ (some 86) _ = _
            simp only [Act.put, List.setIfInBounds_toArray, List.set_cons_zero, List.set_cons_succ, i64_w, i32_w]
            rfl
          refine done_ (done_of HT_.out (by kernel_rfl)) ?_
          go_wp2
          go_roundw
          case measure => simp only [intOf, ew]; omega
          case rel => exact ⟨n + 1, i + 1, r, _, by omega, by first | rw [en] | (congr 1; omega) | rfl, by first | rw [ew] | (congr 1; omega) | rfl, HT, ⟨(show Sat W w7 (Dk h _ :: Dk g r :: []) from H7.out).nth 1 rfl⟩⟩
        · have k5 : decide (0 < part) = false := decide_eq_false hp0
          have HT := Aside0.mk (show Two keep part r c (n + 1) (i + 1) from by rw [← hr]; exact HI.out.none hk.1 hiN hf hn (fun h => hp0 h.2))
          clear hf hxs hr hn hnk hp0
          go_wp2_with (first | (go_at_call 10; go_loud ((with_reducible refine (Append_calls W wr _ g d (2 + i) (5 + 10 * i) x ten (by omega) (by omega) HX.out (by decide) HLD.out.ok HS.out).mono ?_); rintro e w6 ⟨rfl, hs6⟩; rw [HR.out] at hs6; rw [HE.out]; have q1 := cell_below QW.out hs6.below; have HC2 := Aside0.mk (show Sat W w6 (Dk h c :: Dk g r :: []) from hs6.nth 1 rfl); clear hs6)))
          go_roundw
          case measure => simp only [intOf, ew]; omega
          case rel => exact ⟨n + 1, i + 1, r, c, by omega, by first | rw [en] | (congr 1; omega) | rfl, by first | rw [ew] | (congr 1; omega) | rfl, HT, ⟨HC2.out.nth 1 rfl⟩⟩
      · have k4 : ((n : Int) == keep) = false := beq_eq_false_iff_ne.2 hnk
        have HT := Aside0.mk (show Two keep part r c (n + 1) (i + 1) from by rw [← hr]; exact HI.out.none hk.1 hiN hf hn (fun h => hnk h.1))
        clear hf hxs hr hn hnk
        go_wp2_with (first | (go_at_call 10; go_loud ((with_reducible refine (Append_calls W wr _ g d (2 + i) (5 + 10 * i) x ten (by omega) (by omega) HX.out (by decide) HLD.out.ok HS.out).mono ?_); rintro e w6 ⟨rfl, hs6⟩; rw [HR.out] at hs6; rw [HE.out]; have q1 := cell_below QW.out hs6.below; have HC2 := Aside0.mk (show Sat W w6 (Dk h c :: Dk g r :: []) from hs6.nth 1 rfl); clear hs6)))
        go_roundw
        case measure => simp only [intOf, ew]; omega
        case rel => exact ⟨n + 1, i + 1, r, c, by omega, by first | rw [en] | (congr 1; omega) | rfl, by first | rw [ew] | (congr 1; omega) | rfl, HT, ⟨HC2.out.nth 1 rfl⟩⟩
end Go.Proofs.Ytlngljhinboglaa.LwDiskKeeps
