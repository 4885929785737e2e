/- Plain lemmas: both Adler sums are one.
   Plain lemmas: the program's Adler sum, of bytes however many. -/
import Derived.Test.YtmnlbedgkjnodaaDoorZTszEven5
import Derived.Test.YtmnlbedgkjnodaaDoorZTszEven17
import Derived.Test.YtmnlbedgkjnodaaDoorZTszEven18
import Derived.Laws.Bits64
namespace Go.Proofs.YtmnlbedgkjnodaaDoor.AdP
open Go.RowKit Go.Proofs.YtmnlbedgkjnodaaDoorW.PrintWords Go.Proofs.YtmnlbedgkjnodaaDoorW.PrintLast Go.Proofs.YtmnlbedgkjnodaaDoorW.PrintMore Go.Proofs.YtmnlbedgkjnodaaDoor.QB Go.Proofs.YtmnlbedgkjnodaaDoor.Uv Go.Proofs.YtmnlbedgkjnodaaDoor.UvP
set_option linter.unusedVariables false
set_option linter.unusedSimpArgs false

def adStep (s : Nat × Nat) (c : Int) : Nat × Nat := ((s.1 + c.toNat) % 65521, (s.2 + (s.1 + c.toNat) % 65521) % 65521)
def adFin (s : Nat × Nat) : Nat := s.2 * 65536 + s.1
def adF (l : List Int) : Nat := adFin (l.foldl adStep (1, 0))
def smStep (s : Nat × Nat) (c : Int) : Nat × Nat := (s.1 + c.toNat, s.2 + (s.1 + c.toNat))
theorem sm_mod : ∀ (t : List Int) (x y : Nat), t.foldl adStep (x % 65521, y % 65521) = ((t.foldl smStep (x, y)).1 % 65521, (t.foldl smStep (x, y)).2 % 65521)
  | [], x, y => rfl
  | c :: t, x, y => by
    have h := sm_mod t (x + c.toNat) (y + (x + c.toNat))
    rw [List.foldl_cons, List.foldl_cons]
    have e : adStep (x % 65521, y % 65521) c = ((x + c.toNat) % 65521, (y + (x + c.toNat)) % 65521) := by
      unfold adStep
      simp only [Prod.mk.injEq]
      omega
    rw [e]
    exact h
theorem fold_lt : ∀ (t : List Int) (s : Nat × Nat), s.1 < 65521 → s.2 < 65521 → (t.foldl adStep s).1 < 65521 ∧ (t.foldl adStep s).2 < 65521
  | [], s, h1, h2 => ⟨h1, h2⟩
  | c :: t, s, h1, h2 => by
    rw [List.foldl_cons]
    refine fold_lt t _ ?_ ?_ <;> (unfold adStep; simp only; omega)
theorem adF_lt (l : List Int) : adF l < 4294967296 := by
  have h := fold_lt l (1, 0) (by decide) (by decide)
  unfold adF adFin
  omega
theorem ref_Adler_l0 (l : List Int) (hb : Bytes l) (hl : l.length ≤ 1099511627776) : ∀ (d i k x y : Nat), i + d = l.length → d < k → x < 65521 → y < 65521 →
    thermographref04_Adler.l0 k l (x : Int) (y : Int) (i : Int) = some ((adFin ((l.drop i).foldl adStep (x, y)) : Nat) : Int) := by
  intro d
  induction d with
  | zero =>
    intro i k x y hi hk hx hy
    obtain ⟨k, rfl⟩ : ∃ j, k = j + 1 := ⟨k - 1, by omega⟩
    rw [thermographref04_Adler.l0, if_neg (by omega), List.drop_of_length_le (by omega)]
    simp only [List.foldl_nil, adFin]
    congr 1
    omega
  | succ d ih =>
    intro i k x y hi hk hx hy
    obtain ⟨k, rfl⟩ : ∃ j, k = j + 1 := ⟨k - 1, by omega⟩
    have hlt : i < l.length := by omega
    have hc := hb _ (List.getElem_mem hlt)
    rw [thermographref04_Adler.l0, if_pos (by omega), if_pos (by omega), rd_nat hlt, List.drop_eq_getElem_cons hlt, List.foldl_cons]
    obtain ⟨c, he⟩ : ∃ c : Nat, l[i] = (c : Int) := ⟨l[i].toNat, by omega⟩
    rw [he] at hc ⊢
    have h := ih (i + 1) k ((x + c) % 65521) ((y + (x + c) % 65521) % 65521) (by omega) (by omega) (by omega) (by omega)
    have e1 : (((x : Int) + ((c : Int) % 4294967296)) % 4294967296) % 65521 = (((x + c) % 65521 : Nat) : Int) := by omega
    have e2 : (((y : Int) + (((x + c) % 65521 : Nat) : Int)) % 4294967296) % 65521 = (((y + (x + c) % 65521) % 65521 : Nat) : Int) := by omega
    have e3 : wrap64 ((i : Int) + 1) = ((i + 1 : Nat) : Int) := by unfold wrap64; omega
    rw [e1, e2, e3]
    exact h
theorem ref_Adler_f {l : List Int} (hb : Bytes l) (hl : l.length ≤ 1099511627776) {k : Nat} (hk : l.length < k) : thermographref04_Adler.f k l = some ((adF l : Nat) : Int) := by
  unfold thermographref04_Adler.f
  exact ref_Adler_l0 l hb hl l.length 0 k 1 0 (by omega) hk (by omega) (by omega)
theorem or_hi (a b : Nat) (ha : a < 65536) (hb : b < 65536) : Go.bits .or .u32 ((((a : Int) % 4294967296) * 65536) % 4294967296) ((b : Int) % 4294967296) = ((a * 65536 + b : Nat) : Int) := by
  rw [show (((a : Int) % 4294967296) * 65536) % 4294967296 = ((a * 65536 : Nat) : Int) by omega, show (b : Int) % 4294967296 = ((b : Nat) : Int) by omega, u32_or_nat _ _ (by omega) (by omega)]
  congr 1
  exact nat_join 16 _ _ (by omega) (by omega)
theorem Adler_l1 (l : List Int) (hb : Bytes l) (hl : l.length ≤ 3000) : ∀ (d i k x y : Nat), i + d = l.length → d < k → x ≤ 1 + 255 * i → y ≤ 1000000 * i →
    digest_Adler.l1 k l (x : Int) (y : Int) l l (l.length : Int) (i : Int) = digest_Adler.l0 (k - d - 1) [] ((((l.drop i).foldl smStep (x, y)).1 % 65521 : Nat) : Int) ((((l.drop i).foldl smStep (x, y)).2 % 65521 : Nat) : Int) := by
  intro d
  induction d with
  | zero =>
    intro i k x y hi hk hx hy
    obtain ⟨k, rfl⟩ : ∃ j, k = j + 1 := ⟨k - 1, by omega⟩
    rw [digest_Adler.l1, if_neg (by omega), if_pos (by omega), if_pos (by omega), Int.toNat_natCast, List.drop_length, List.drop_of_length_le (by omega), Int.tmod_eq_emod_of_nonneg (by omega), Int.tmod_eq_emod_of_nonneg (by omega)]
    simp only [List.foldl_nil]
    rfl
  | succ d ih =>
    intro i k x y hi hk hx hy
    obtain ⟨k, rfl⟩ : ∃ j, k = j + 1 := ⟨k - 1, by omega⟩
    have hlt : i < l.length := by omega
    have hc := hb _ (List.getElem_mem hlt)
    rw [digest_Adler.l1, if_pos (by omega), if_pos (by omega), if_pos (by omega), rd_nat hlt, List.drop_eq_getElem_cons hlt, List.foldl_cons]
    obtain ⟨c, he⟩ : ∃ c : Nat, l[i] = (c : Int) := ⟨l[i].toNat, by omega⟩
    rw [he] at hc ⊢
    have h := ih (i + 1) k (x + c) (y + (x + c)) (by omega) (by omega) (by omega) (by omega)
    have e1 : wrap64 ((x : Int) + wrap64 (c : Int)) = ((x + c : Nat) : Int) := by unfold wrap64; omega
    have e2 : wrap64 ((y : Int) + ((x + c : Nat) : Int)) = ((y + (x + c) : Nat) : Int) := by clear e1; unfold wrap64; omega
    have e3 : wrap64 ((i : Int) + 1) = ((i + 1 : Nat) : Int) := by clear e1 e2; unfold wrap64; omega
    rw [e1, e2, e3, h]
    have e4 : k + 1 - (d + 1) - 1 = k - d - 1 := by clear e1 e2 e3; omega
    rw [e4]
    rfl
theorem Adler_f {l : List Int} (hb : Bytes l) (hl : l.length ≤ 3000) {k : Nat} (hk : l.length + 5 < k) : digest_Adler.f k l = some ((adF l : Nat) : Int) := by
  unfold digest_Adler.f adF
  have hlt := fold_lt l (1, 0) (by decide) (by decide)
  have hm := sm_mod l 1 0
  rw [show ((1 : Nat) % 65521, (0 : Nat) % 65521) = (1, 0) from rfl] at hm
  obtain ⟨k, rfl⟩ : ∃ j, k = j + 1 := ⟨k - 1, by omega⟩
  rw [digest_Adler.l0]
  by_cases hz : l.length = 0
  · have : l = [] := List.eq_nil_of_length_eq_zero hz
    subst this
    rfl
  · have e0 : mn (l.length : Int) 3000 = (l.length : Int) := by unfold mn; split <;> omega
    rw [if_pos (by omega), e0, if_pos (by omega), if_pos (by omega), Int.toNat_natCast, List.take_length]
    simp only [Option.bind_some]
    have h := Adler_l1 l hb hl l.length 0 k 1 0 (by omega) (by omega) (by omega) (by omega)
    rw [List.drop_zero] at h
    rw [show ((1 : Nat) : Int) = 1 from rfl, show ((0 : Nat) : Int) = 0 from rfl] at h
    rw [h]
    obtain ⟨j, hj⟩ : ∃ j, k - l.length - 1 = j + 1 := ⟨k - l.length - 2, by omega⟩
    rw [hj, digest_Adler.l0, if_neg (by simp)]
    rw [hm] at hlt ⊢
    simp only at hlt
    rw [or_hi _ _ (by omega) (by omega)]
    rfl
end Go.Proofs.YtmnlbedgkjnodaaDoor.AdP
namespace Go.Proofs.YtmnlbedgkjnodaaDoor.AdP
open Go.RowKit Go.Proofs.YtmnlbedgkjnodaaDoorW.PrintWords Go.Proofs.YtmnlbedgkjnodaaDoorW.PrintLast Go.Proofs.YtmnlbedgkjnodaaDoorW.PrintMore Go.Proofs.YtmnlbedgkjnodaaDoor.QB Go.Proofs.YtmnlbedgkjnodaaDoor.Uv Go.Proofs.YtmnlbedgkjnodaaDoor.UvP
set_option linter.unusedVariables false
set_option linter.unusedSimpArgs false
theorem wnat (n : Nat) (h : n < 9000000000000000000) : wrap64 (n : Int) = (n : Int) := by unfold wrap64; omega
theorem Adler_part (l p : List Int) (hb : Bytes p) (hp : p.length ≤ 3000) (hl : p.length ≤ l.length) : ∀ (d i k x y : Nat), i + d = p.length → d < k → x ≤ 65520 + 255 * i → y ≤ 65520 + 1000000 * i →
    digest_Adler.l1 k l (x : Int) (y : Int) p p (p.length : Int) (i : Int) = digest_Adler.l0 (k - d - 1) (l.drop p.length) ((((p.drop i).foldl smStep (x, y)).1 % 65521 : Nat) : Int) ((((p.drop i).foldl smStep (x, y)).2 % 65521 : Nat) : Int) := by
  intro d
  induction d with
  | zero =>
    intro i k x y hi hk hx hy
    obtain ⟨k, rfl⟩ : ∃ j, k = j + 1 := ⟨k - 1, by omega⟩
    rw [digest_Adler.l1, if_neg (by omega), if_pos (by omega), if_pos (by omega), Int.toNat_natCast, List.drop_of_length_le (show p.length ≤ i by omega), Int.tmod_eq_emod_of_nonneg (by omega), Int.tmod_eq_emod_of_nonneg (by omega)]
    simp only [List.foldl_nil]
    rfl
  | succ d ih =>
    intro i k x y hi hk hx hy
    obtain ⟨k, rfl⟩ : ∃ j, k = j + 1 := ⟨k - 1, by omega⟩
    have hlt : i < p.length := by omega
    have hc := hb _ (List.getElem_mem hlt)
    rw [digest_Adler.l1, if_pos (by omega), if_pos (by omega), if_pos (by omega), rd_nat hlt, List.drop_eq_getElem_cons hlt, List.foldl_cons]
    obtain ⟨c, he⟩ : ∃ c : Nat, p[i] = (c : Int) := ⟨p[i].toNat, by omega⟩
    rw [he] at hc ⊢
    have h := ih (i + 1) k (x + c) (y + (x + c)) (by omega) (by omega) (by omega) (by omega)
    have hx3 : x + c < 9000000000000000000 := by omega
    have hy3 : y + (x + c) < 9000000000000000000 := by omega
    have hi3 : i + 1 < 9000000000000000000 := by omega
    have hc3 : c < 9000000000000000000 := by omega
    have e1 : wrap64 ((x : Int) + wrap64 (c : Int)) = ((x + c : Nat) : Int) := by rw [wnat c hc3, ← Int.natCast_add, wnat _ hx3]
    have e2 : wrap64 ((y : Int) + ((x + c : Nat) : Int)) = ((y + (x + c) : Nat) : Int) := by rw [← Int.natCast_add, wnat _ hy3]
    have e3 : wrap64 ((i : Int) + 1) = ((i + 1 : Nat) : Int) := wnat (i + 1) hi3
    rw [e1, e2, e3, h]
    have e4 : k + 1 - (d + 1) - 1 = k - d - 1 := by clear e1 e2 e3; omega
    rw [e4]
    rfl
theorem Adler_all : ∀ (n : Nat) (l : List Int) (k x y : Nat), l.length ≤ n → Bytes l → l.length ≤ 1000000 → 3 * l.length + 1 < k → x < 65521 → y < 65521 →
    digest_Adler.l0 k l (x : Int) (y : Int) = some ((adFin (l.foldl adStep (x, y)) : Nat) : Int) := by
  intro n
  induction n with
  | zero =>
    intro l k x y hn hb hl hk hx hy
    obtain rfl := List.eq_nil_of_length_eq_zero (show l.length = 0 by omega)
    obtain ⟨k, rfl⟩ : ∃ j, k = j + 1 := ⟨k - 1, by omega⟩
    rw [digest_Adler.l0, if_neg (by simp), or_hi _ _ (by omega) (by omega)]
    rfl
  | succ n ih =>
    intro l k x y hn hb hl hk hx hy
    obtain ⟨k, rfl⟩ : ∃ j, k = j + 1 := ⟨k - 1, by omega⟩
    rw [digest_Adler.l0]
    by_cases hz : l.length = 0
    · obtain rfl := List.eq_nil_of_length_eq_zero hz
      rw [if_neg (by simp), or_hi _ _ (by omega) (by omega)]
      rfl
    · obtain ⟨m, hm⟩ : ∃ m, min l.length 3000 = m := ⟨_, rfl⟩
      have e0 : mn (l.length : Int) 3000 = (m : Int) := by unfold mn; split <;> omega
      have hpl : (l.take m).length = m := by rw [List.length_take]; omega
      rw [if_pos (by omega), e0, if_pos (by omega), if_pos (by omega), Int.toNat_natCast]
      simp only [Option.bind_some]
      have h := Adler_part l (l.take m) (fun z hz => hb z (List.mem_of_mem_take hz)) (by omega) (by omega) (l.take m).length 0 k x y (by omega) (by omega) (by omega) (by omega)
      rw [List.drop_zero] at h
      rw [show ((0 : Nat) : Int) = 0 from rfl] at h
      rw [h, hpl]
      have hmod := sm_mod (l.take m) x y
      rw [Nat.mod_eq_of_lt hx, Nat.mod_eq_of_lt hy] at hmod
      have hlt := fold_lt (l.take m) (x, y) hx hy
      rw [hmod] at hlt
      simp only at hlt
      rw [ih (l.drop m) _ _ _ (by rw [List.length_drop]; omega) (fun z hz => hb z (List.mem_of_mem_drop hz)) (by rw [List.length_drop]; omega) (by rw [List.length_drop]; omega) hlt.1 hlt.2, ← hmod, ← List.foldl_append, List.take_append_drop]
theorem Adler_f' {l : List Int} (hb : Bytes l) (hl : l.length ≤ 1000000) {k : Nat} (hk : 3 * l.length + 1 < k) : digest_Adler.f k l = some ((adF l : Nat) : Int) := by
  unfold digest_Adler.f adF
  exact Adler_all l.length l k 1 0 (Nat.le_refl _) hb hl hk (by omega) (by omega)
end Go.Proofs.YtmnlbedgkjnodaaDoor.AdP
