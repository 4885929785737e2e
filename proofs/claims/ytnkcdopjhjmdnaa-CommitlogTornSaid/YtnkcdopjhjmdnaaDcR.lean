/- Plain lemmas: which bytes are a record, for the program and for the document; what lists of bytes are decoded to. Plain lemmas: both Decodes tell the same of any bytes; what stands one behind the other is told one behind the other. Plain lemmas: what commitlog.Decode's function answers. -/
import Derived.Test.YtnkcdopjhjmdnaaCoQ
import Derived.Test.YtnkcdopjhjmdnaaCdQ
namespace Go.Proofs.Ytnkcdopjhjmdnaa.DcP
open Go.RowKit Go.Proofs.YtnkcdopjhjmdnaaW.PrintWords Go.Proofs.YtnkcdopjhjmdnaaW.PrintLast Go.Proofs.YtnkcdopjhjmdnaaW.PrintMore Go.Proofs.Ytnkcdopjhjmdnaa.QB Go.Proofs.Ytnkcdopjhjmdnaa.Uv Go.Proofs.Ytnkcdopjhjmdnaa.UvP Go.Proofs.Ytnkcdopjhjmdnaa.CeW Go.Proofs.Ytnkcdopjhjmdnaa.CfW Go.Proofs.Ytnkcdopjhjmdnaa.CpP Go.Proofs.Ytnkcdopjhjmdnaa.CoW Go.Proofs.Ytnkcdopjhjmdnaa.AdP
set_option linter.unusedVariables false
set_option linter.unusedSimpArgs false

def Good (n : Nat) (id : ByteArray) (m v s : Nat) : Prop := n < 4 ∧ (1 ≤ id.size ∧ id.size ≤ 16) ∧ m ≤ 1099511627776 ∧ v < 18446744073709551616 ∧ s < 18446744073709551616
theorem str_back (s : ByteArray) : strOfNums (bytesOf s) = s := by
  have h : (s.data.toList.map fun b => ((b.toNat : Nat) : Int)).map (fun n => UInt8.ofNat n.toNat) = s.data.toList := by
    rw [List.map_map]
    conv => rhs; rw [← List.map_id s.data.toList]
    apply List.map_congr_left
    intro b _
    simp
  unfold bytesOf strOfNums
  rw [h]
theorem be_snoc : ∀ (m v : Nat), be (m + 1) v = be m (v / 256) ++ [((v % 256 : Nat) : Int)]
  | 0, v => by simp [be]
  | m + 1, v => by
    rw [be, be_snoc m v, be]
    simp only [List.cons_append]
    congr 3
    rw [Nat.div_div_eq_div_mul, Nat.pow_succ, Nat.mul_comm]
theorem big_be : ∀ (m v : Nat), big (be m v) = v % 256 ^ m
  | 0, v => by simp [be, big, Nat.mod_one]
  | m + 1, v => by
    rw [be_snoc, big_snoc, big_be m (v / 256), Int.toNat_natCast, Nat.pow_succ, Nat.mul_comm (256 ^ m) 256, Nat.mod_mul]
    omega
theorem big_be8 {v : Nat} (h : v < 18446744073709551616) : big (be 8 v) = v := by
  rw [big_be, Nat.mod_eq_of_lt]
  exact Nat.lt_of_lt_of_le h (by decide)
theorem nm_uv {most : Int} {n : Nat} (hn : (n : Int) ≤ most) (hm : most ≤ 1099511627776) (t : List Int) (ok : Bool) : nm most (uv n ++ t) ok = (n, t, ok) := by
  unfold nm
  have hp := uv_pos n
  rw [ruv_uv (by omega)]
  simp only
  rw [if_neg (by omega)]
  simp
theorem encE_good {n : Nat} {id : ByteArray} {m v s : Nat} (h : Good n id m v s) : encE (n : Int) id (m : Int) (v : Int) (s : Int) = (encR n id m v s, 0) := by
  obtain ⟨h1, h2, h3, h4, h5⟩ := h
  unfold encE
  rw [if_neg (by omega), if_neg (by omega)]
  simp only [Int.toNat_natCast]
theorem encE_zero {n : Nat} {id : ByteArray} {m v s : Nat} (hv : v < 18446744073709551616) (hs : s < 18446744073709551616) (h : (encE (n : Int) id (m : Int) (v : Int) (s : Int)).2 = 0) : Good n id m v s := by
  unfold encE at h
  split at h
  · cases h
  · split at h
    · cases h
    · exact ⟨by omega, by omega, by omega, hv, hs⟩
theorem body_length {n : Nat} {id : ByteArray} {m v s : Nat} (h : Good n id m v s) : (bodyR n id m v s).length ≤ 62 ∧ 16 ≤ (bodyR n id m v s).length := by
  obtain ⟨h1, h2, h3, h4, h5⟩ := h
  have u1 : (uv n).length ≤ 10 := uv_length10 (by omega)
  have u2 : (uv id.size).length ≤ 10 := uv_length10 (by omega)
  have u3 : (uv m).length ≤ 10 := uv_length10 (by omega)
  unfold bodyR
  simp only [List.length_append, be_length, bytesOf_length]
  omega
theorem body_app (n : Nat) (id : ByteArray) (m v s : Nat) : bodyR n id m v s = uv n ++ (uv id.size ++ (bytesOf id ++ (uv m ++ (be 8 v ++ be 8 s)))) := by
  unfold bodyR
  simp only [List.append_assoc]
theorem parse_body {n : Nat} {id : ByteArray} {m v s : Nat} (h : Good n id m v s) : parseR (bodyR n id m v s) = ((n, id, m, v, s), true) := by
  obtain ⟨h1, h2, h3, h4, h5⟩ := h
  unfold parseR
  rw [body_app, nm_uv (by omega) (by omega)]
  simp only
  rw [nm_uv (by omega) (by omega)]
  simp only
  have hl := bytesOf_length id
  rw [List.take_left' hl, List.drop_left' hl, str_back, nm_uv (by omega) (by omega)]
  simp only
  have e8 := be_length 8 v
  have e9 := be_length 8 s
  rw [List.take_left' e8, List.drop_left' e8, big_be8 h4, List.take_of_length_le (by omega), big_be8 h5]
  simp only [List.length_append, e8, e9, hl]
  rw [decide_eq_true (by omega), decide_eq_true (by omega), decide_eq_true (by omega)]
  rfl
theorem encR_parts (n : Nat) (id : ByteArray) (m v s : Nat) (t : List Int) : encR n id m v s ++ t = uv (bodyR n id m v s).length ++ (be 4 (adF (bodyR n id m v s)) ++ (bodyR n id m v s ++ t)) := by
  unfold encR
  simp only [List.append_assoc]
theorem encR_length (n : Nat) (id : ByteArray) (m v s : Nat) : (encR n id m v s).length = (uv (bodyR n id m v s).length).length + 4 + (bodyR n id m v s).length := by
  unfold encR
  simp only [List.length_append, be_length]
theorem encR_drop (n : Nat) (id : ByteArray) (m v s : Nat) : (encR n id m v s).drop ((uv (bodyR n id m v s).length).length + 4) = bodyR n id m v s := by
  have h := encR_parts n id m v s []
  rw [List.append_nil, List.append_nil] at h
  rw [h, ← List.append_assoc, List.drop_left']
  rw [List.length_append, be_length]
theorem firstF_enc {n : Nat} {id : ByteArray} {m v s : Nat} (h : Good n id m v s) (t : List Int) : firstF (encR n id m v s ++ t) = ((n : Int), id, (m : Int), (v : Int), (s : Int), ((encR n id m v s).length : Int)) := by
  have hb := body_length h
  have hl := encR_length n id m v s
  have hr : ruv (encR n id m v s ++ t) = (((bodyR n id m v s).length : Int), ((uv (bodyR n id m v s).length).length : Int)) := by
    rw [encR_parts, ruv_uv (by omega)]
  have hp := uv_pos (bodyR n id m v s).length
  unfold firstF
  rw [hr]
  simp only [Int.toNat_natCast]
  rw [if_neg (by rw [List.length_append]; omega), ← hl, List.take_left, encR_drop, parse_body h]
  simp only
  rw [encE_good h]
  simp
theorem firstF_sound {b : List Int} (hb : Bytes b) (h : (firstF b).2.2.2.2.2 ≠ 0) : ∃ n id m v s t, Good n id m v s ∧ b = encR n id m v s ++ t := by
  obtain ⟨L, k, hr, hk, _⟩ := ruv_parts hb
  unfold firstF at h
  rw [hr] at h
  simp only [Int.toNat_natCast] at h
  split at h
  · exact absurd rfl h
  · rename_i hz
    split at h
    · rename_i hc
      obtain ⟨⟨⟨a, id, m, v, s⟩, ok⟩, hp⟩ : ∃ p, parseR ((b.take (k + 4 + L)).drop (k + 4)) = p := ⟨_, rfl⟩
      rw [hp] at hc
      simp only at hc
      obtain ⟨_, c2, c3⟩ := hc
      have hx : Bytes ((b.take (k + 4 + L)).drop (k + 4)) := Bytes.drop (Bytes.take hb _) _
      have hvs : v < 18446744073709551616 ∧ s < 18446744073709551616 := by
        unfold parseR at hp
        obtain ⟨⟨a1, x1, o1⟩, hn1⟩ : ∃ p, nm 3 ((b.take (k + 4 + L)).drop (k + 4)) true = p := ⟨_, rfl⟩
        obtain ⟨by1, _, _⟩ := nm_bytes (most := 3) (by decide) hx true hn1
        rw [hn1] at hp
        simp only at hp
        obtain ⟨⟨a2, x2, o2⟩, hn2⟩ : ∃ p, nm 16 x1 o1 = p := ⟨_, rfl⟩
        obtain ⟨by2, _, _⟩ := nm_bytes (most := 16) (by decide) by1 o1 hn2
        rw [hn2] at hp
        simp only at hp
        obtain ⟨⟨a4, x4, o4⟩, hn4⟩ : ∃ p, nm 1099511627776 (x2.drop a2) (o2 && decide (a2 ≤ x2.length)) = p := ⟨_, rfl⟩
        obtain ⟨by4, _, _⟩ := nm_bytes (most := 1099511627776) (by decide) (Bytes.drop by2 a2) _ hn4
        rw [hn4] at hp
        simp only [Prod.mk.injEq] at hp
        obtain ⟨⟨_, _, _, rfl, rfl⟩, _⟩ := hp
        exact ⟨big8 by4, big8 (Bytes.drop by4 8)⟩
      have hg := encE_zero hvs.1 hvs.2 c2
      rw [encE_good hg] at c3
      simp only at c3
      exact ⟨a, id, m, v, s, b.drop (k + 4 + L), hg, by rw [c3, List.take_append_drop]⟩
    · exact absurd rfl h
theorem oneF_enc {n : Nat} {id : ByteArray} {m v s : Nat} (h : Good n id m v s) (t : List Int) : oneF (encR n id m v s ++ t) = ((n : Int), id, (m : Int), (v : Int), (s : Int), ((encR n id m v s).length : Int)) := by
  have hb := body_length h
  have hl := encR_length n id m v s
  have hr : ruv (encR n id m v s ++ t) = (((bodyR n id m v s).length : Int), ((uv (bodyR n id m v s).length).length : Int)) := by
    rw [encR_parts, ruv_uv (by omega)]
  have hp := uv_pos (bodyR n id m v s).length
  have hgood := h
  obtain ⟨h1, h2, h3, h4, h5⟩ := hgood
  have p1 := uv_pos n
  have p2 := uv_pos id.size
  have p3 := uv_pos m
  have hil := bytesOf_length id
  have e8 := be_length 8 v
  have e9 := be_length 8 s
  unfold oneF
  rw [hr]
  simp only [Int.toNat_natCast]
  rw [if_neg (by rw [List.length_append]; omega), ← hl, List.take_left, encR_drop]
  unfold one1
  rw [body_app, ruv_uv (by omega)]
  simp only [Int.toNat_natCast]
  rw [if_neg (by omega), List.drop_left]
  unfold one2
  rw [ruv_uv (by omega)]
  simp only [Int.toNat_natCast]
  rw [if_neg (by simp only [List.length_append]; omega)]
  have hd : (uv id.size ++ (bytesOf id ++ (uv m ++ (be 8 v ++ be 8 s)))).drop ((uv id.size).length + id.size) = uv m ++ (be 8 v ++ be 8 s) := by
    rw [← List.append_assoc, List.drop_left']
    rw [List.length_append, hil]
  have ht : ((uv id.size ++ (bytesOf id ++ (uv m ++ (be 8 v ++ be 8 s)))).take ((uv id.size).length + id.size)).drop (uv id.size).length = bytesOf id := by
    rw [← List.append_assoc, List.take_left' (by rw [List.length_append, hil]), List.drop_left]
  rw [hd, ht, str_back]
  unfold one3
  rw [ruv_uv (by omega)]
  simp only [Int.toNat_natCast]
  rw [if_neg (by simp only [List.length_append, e8, e9]; omega), List.drop_left, List.take_left' e8, big_be8 h4]
  have hd2 : (uv m ++ (be 8 v ++ be 8 s)).drop ((uv m).length + 8) = be 8 s := by
    rw [← List.append_assoc, List.drop_left']
    rw [List.length_append, e8]
  rw [hd2, List.take_of_length_le (by omega), big_be8 h5, encE_good h]
  simp
theorem oneF_sound {b : List Int} (hb : Bytes b) (h : (oneF b).2.2.2.2.2 ≠ 0) : ∃ n id m v s t, Good n id m v s ∧ b = encR n id m v s ++ t := by
  obtain ⟨L, k, hr, hk, _⟩ := ruv_parts hb
  unfold oneF at h
  rw [hr] at h
  simp only [Int.toNat_natCast] at h
  split at h
  · exact absurd rfl h
  have hx : Bytes ((b.take (k + 4 + L)).drop (k + 4)) := Bytes.drop (Bytes.take hb _) _
  obtain ⟨a, k1, hr1, _, _⟩ := ruv_parts hx
  unfold one1 at h
  rw [hr1] at h
  simp only [Int.toNat_natCast] at h
  split at h
  · exact absurd rfl h
  have hx1 := Bytes.drop hx k1
  obtain ⟨q, k2, hr2, _, _⟩ := ruv_parts hx1
  unfold one2 at h
  rw [hr2] at h
  simp only [Int.toNat_natCast] at h
  split at h
  · exact absurd rfl h
  have hx2 := Bytes.drop hx1 (k2 + q)
  obtain ⟨m, k3, hr3, _, _⟩ := ruv_parts hx2
  unfold one3 at h
  rw [hr3] at h
  simp only [Int.toNat_natCast] at h
  split at h
  · exact absurd rfl h
  split at h
  · rename_i hc
    obtain ⟨c2, c3⟩ := hc
    have hg := encE_zero (big8 (Bytes.drop hx2 k3)) (big8 (Bytes.drop hx2 (k3 + 8))) c2
    rw [encE_good hg] at c3
    simp only at c3
    exact ⟨_, _, _, _, _, b.drop (k + 4 + L), hg, by rw [c3, List.take_append_drop]⟩
  · exact absurd rfl h
end Go.Proofs.Ytnkcdopjhjmdnaa.DcP
namespace Go.Proofs.Ytnkcdopjhjmdnaa.DcQ
open Go.RowKit Go.Proofs.YtnkcdopjhjmdnaaW.PrintWords Go.Proofs.YtnkcdopjhjmdnaaW.PrintLast Go.Proofs.YtnkcdopjhjmdnaaW.PrintMore Go.Proofs.Ytnkcdopjhjmdnaa.QB Go.Proofs.Ytnkcdopjhjmdnaa.Uv Go.Proofs.Ytnkcdopjhjmdnaa.UvP Go.Proofs.Ytnkcdopjhjmdnaa.CeW Go.Proofs.Ytnkcdopjhjmdnaa.CfW Go.Proofs.Ytnkcdopjhjmdnaa.CpP Go.Proofs.Ytnkcdopjhjmdnaa.CoW Go.Proofs.Ytnkcdopjhjmdnaa.DcP
set_option linter.unusedVariables false
set_option linter.unusedSimpArgs false

def recOf (n : Nat) (id : ByteArray) (m v s : Nat) : S32 := ⟨n, id, ⟨m, v, s⟩⟩
def GoodS (x : S32) : Prop := ∃ n id m v s, DcP.Good n id m v s ∧ x = recOf n id m v s
def encS (x : S32) : List Int := encR x.f0.toNat x.f1 x.f2.f0.toNat x.f2.f1.toNat x.f2.f2.toNat
theorem encS_rec (n : Nat) (id : ByteArray) (m v s : Nat) : encS (recOf n id m v s) = encR n id m v s := by
  unfold encS recOf
  simp only [Int.toNat_natCast]
def encA (l : List S32) : List Int := (l.map encS).flatten
theorem encA_cons (x : S32) (l : List S32) : encA (x :: l) = encS x ++ encA l := rfl
theorem encA_app (a b : List S32) : encA (a ++ b) = encA a ++ encA b := by simp [encA]
theorem bytes_encR (n : Nat) (id : ByteArray) (m v s : Nat) : Bytes (encR n id m v s) := by
  unfold encR bodyR
  exact bytes_app (bytes_app (uv_bytes _) (bytes_be _ _)) (bytes_body _ _ _ _ _)
theorem bytes_encA : ∀ l : List S32, Bytes (encA l)
  | [] => fun x hx => by simp [encA] at hx
  | x :: t => by rw [encA_cons]; exact bytes_app (bytes_encR _ _ _ _ _) (bytes_encA t)
theorem encR_pos (n : Nat) (id : ByteArray) (m v s : Nat) : 0 < (encR n id m v s).length := by
  rw [encR_length]
  omega
/-- The records that stand first, and how many bytes they have. -/
def dec : Nat → List Int → List S32 × Nat
  | 0, _ => ([], 0)
  | k + 1, b => if (firstF b).2.2.2.2.2 = 0 then ([], 0) else
      ((⟨(firstF b).1, (firstF b).2.1, ⟨(firstF b).2.2.1, (firstF b).2.2.2.1, (firstF b).2.2.2.2.1⟩⟩ : S32) :: (dec k (b.drop (firstF b).2.2.2.2.2.toNat)).1, (firstF b).2.2.2.2.2.toNat + (dec k (b.drop (firstF b).2.2.2.2.2.toNat)).2)
/-- Nothing that is a record stands first. -/
def None_ (b : List Int) : Prop := ∀ x t, GoodS x → b ≠ encS x ++ t
theorem first_none {b : List Int} (hb : Bytes b) (h : None_ b) : (firstF b).2.2.2.2.2 = 0 ∧ (oneF b).2.2.2.2.2 = 0 := by
  constructor
  · by_cases hz : (firstF b).2.2.2.2.2 = 0
    · exact hz
    · obtain ⟨n, id, m, v, s, t, hg, e⟩ := firstF_sound hb hz
      exact absurd (by rw [encS_rec]; exact e) (h (recOf n id m v s) t ⟨_, _, _, _, _, hg, rfl⟩)
  · by_cases hz : (oneF b).2.2.2.2.2 = 0
    · exact hz
    · obtain ⟨n, id, m, v, s, t, hg, e⟩ := oneF_sound hb hz
      exact absurd (by rw [encS_rec]; exact e) (h (recOf n id m v s) t ⟨_, _, _, _, _, hg, rfl⟩)
theorem first_some {x : S32} (h : GoodS x) (t : List Int) : firstF (encS x ++ t) = (x.f0, x.f1, x.f2.f0, x.f2.f1, x.f2.f2, ((encS x).length : Int)) ∧ oneF (encS x ++ t) = (x.f0, x.f1, x.f2.f0, x.f2.f1, x.f2.f2, ((encS x).length : Int)) := by
  obtain ⟨n, id, m, v, s, hg, rfl⟩ := h
  rw [encS_rec]
  exact ⟨firstF_enc hg t, oneF_enc hg t⟩
theorem first_cases {b : List Int} (hb : Bytes b) : None_ b ∨ ∃ x t, GoodS x ∧ b = encS x ++ t := by
  by_cases h : None_ b
  · exact .inl h
  · right
    unfold None_ at h
    simp only [Classical.not_forall] at h
    obtain ⟨x, t, hg, e⟩ := h
    exact ⟨x, t, hg, Decidable.of_not_not e⟩
theorem encS_pos (x : S32) : 0 < (encS x).length := encR_pos _ _ _ _ _
theorem dec_some {x : S32} (h : GoodS x) (t : List Int) (k : Nat) : dec (k + 1) (encS x ++ t) = (x :: (dec k t).1, (encS x).length + (dec k t).2) := by
  have hp := encS_pos x
  rw [dec, (first_some h t).1]
  simp only [Int.toNat_natCast]
  rw [if_neg (by omega), List.drop_left]
theorem dec_none {b : List Int} (hb : Bytes b) (h : None_ b) (k : Nat) : dec k b = ([], 0) := by
  cases k with
  | zero => rfl
  | succ k => rw [dec, if_pos (first_none hb h).1]
/-- What is decoded: records that may be, and behind them none. -/
theorem dec_spec : ∀ (k : Nat) (b : List Int), Bytes b → b.length < k → ∃ l t, b = encA l ++ t ∧ (∀ x ∈ l, GoodS x) ∧ None_ t ∧ dec k b = (l, (encA l).length)
  | 0, b, _, h => by omega
  | k + 1, b, hb, h => by
    rcases first_cases hb with hn | ⟨x, t, hg, e⟩
    · exact ⟨[], b, rfl, fun x hx => (by cases hx), hn, dec_none hb hn _⟩
    · subst e
      have hp := encS_pos x
      rw [List.length_append] at h
      have hbt : Bytes t := fun y hy => hb y (List.mem_append.2 (.inr hy))
      obtain ⟨l, u, e2, h2, h3, h4⟩ := dec_spec k t hbt (by omega)
      refine ⟨x :: l, u, by rw [encA_cons, List.append_assoc, ← e2], fun y hy => ?_, h3, ?_⟩
      · rcases List.mem_cons.1 hy with rfl | hy
        · exact hg
        · exact h2 y hy
      · rw [dec_some hg, h4, encA_cons, List.length_append]
theorem dec_enc : ∀ (l : List S32) (t : List Int) (k : Nat), (∀ x ∈ l, GoodS x) → dec (l.length + k) (encA l ++ t) = (l ++ (dec k t).1, (encA l).length + (dec k t).2)
  | [], t, k, _ => by simp [encA]
  | x :: l, t, k, hg => by
    rw [encA_cons, List.append_assoc, List.length_cons, show l.length + 1 + k = l.length + k + 1 by omega, dec_some (hg x List.mem_cons_self), dec_enc l t k (fun y hy => hg y (List.mem_cons_of_mem _ hy)), List.length_append]
    simp only [List.cons_append, Nat.add_assoc]
theorem dec_more : ∀ (k j : Nat) (b : List Int), Bytes b → b.length < k → b.length < j → dec k b = dec j b := by
  intro k j b hb h1 h2
  obtain ⟨l, t, e, hg, hn, hd⟩ := dec_spec k b hb h1
  obtain ⟨l', t', e', hg', hn', hd'⟩ := dec_spec j b hb h2
  rw [hd, hd']
  have key : ∀ (a a' : List S32) (u u' : List Int), (∀ x ∈ a, GoodS x) → (∀ x ∈ a', GoodS x) → None_ u → None_ u' → encA a ++ u = encA a' ++ u' → a = a' := by
    intro a
    induction a with
    | nil =>
      intro a' u u' _ g' n _ he
      cases a' with
      | nil => rfl
      | cons y a' => exact absurd (by rw [show encA ([] : List S32) ++ u = u from rfl] at he; rw [he, encA_cons, List.append_assoc]) (n y (encA a' ++ u') (g' y List.mem_cons_self))
    | cons x a ih =>
      intro a' u u' g g' n n' he
      cases a' with
      | nil => exact absurd (by rw [show encA ([] : List S32) ++ u' = u' from rfl] at he; rw [← he, encA_cons, List.append_assoc]) (n' x (encA a ++ u) (g x List.mem_cons_self))
      | cons y a' =>
        rw [encA_cons, encA_cons, List.append_assoc, List.append_assoc] at he
        have f1 := (first_some (g x List.mem_cons_self) (encA a ++ u)).1
        have f2 := (first_some (g' y List.mem_cons_self) (encA a' ++ u')).1
        rw [he, f2] at f1
        simp only [Prod.mk.injEq] at f1
        obtain ⟨q0, q1, q2, q3, q4, _⟩ := f1
        have hxy : y = x := by
          cases x with | mk x0 x1 x2 => cases x2 with | mk x3 x4 x5 => cases y with | mk y0 y1 y2 => cases y2 with | mk y3 y4 y5 =>
          simp only at q0 q1 q2 q3 q4
          subst q0 q1 q2 q3 q4
          rfl
        subst hxy
        rw [ih a' u u' (fun z hz => g z (List.mem_cons_of_mem _ hz)) (fun z hz => g' z (List.mem_cons_of_mem _ hz)) n n' (List.append_cancel_left he)]
  rw [key l l' t t' hg hg' hn hn' (by rw [← e, ← e'])]
/-- What bytes are decoded to. -/
def D (b : List Int) : List S32 × Nat := dec (b.length + 1) b
theorem encA_len : ∀ (l : List S32), l.length ≤ (encA l).length
  | [] => Nat.le_refl _
  | x :: l => by
    have := encA_len l
    have := encS_pos x
    rw [encA_cons, List.length_append, List.length_cons]
    omega
theorem D_spec {b : List Int} (hb : Bytes b) : ∃ l t, b = encA l ++ t ∧ (∀ x ∈ l, GoodS x) ∧ None_ t ∧ D b = (l, (encA l).length) := dec_spec _ b hb (by omega)
theorem D_enc {l : List S32} (hg : ∀ x ∈ l, GoodS x) {t : List Int} (ht : Bytes t) : D (encA l ++ t) = (l ++ (D t).1, (encA l).length + (D t).2) := by
  have hl := encA_len l
  unfold D
  obtain ⟨k, hk, hk2⟩ : ∃ k, (encA l ++ t).length + 1 = l.length + k ∧ t.length < k := ⟨(encA l).length + t.length + 1 - l.length, by rw [List.length_append]; omega, by omega⟩
  rw [hk, dec_enc l t k hg, dec_more k (t.length + 1) t ht hk2 (by omega)]
end Go.Proofs.Ytnkcdopjhjmdnaa.DcQ
namespace Go.Proofs.Ytnkcdopjhjmdnaa.DcQ
open Go.RowKit Go.Proofs.YtnkcdopjhjmdnaaW.PrintWords Go.Proofs.YtnkcdopjhjmdnaaW.PrintLast Go.Proofs.YtnkcdopjhjmdnaaW.PrintMore Go.Proofs.Ytnkcdopjhjmdnaa.QB Go.Proofs.Ytnkcdopjhjmdnaa.Uv Go.Proofs.Ytnkcdopjhjmdnaa.UvP Go.Proofs.Ytnkcdopjhjmdnaa.CeW Go.Proofs.Ytnkcdopjhjmdnaa.CfW Go.Proofs.Ytnkcdopjhjmdnaa.CpP Go.Proofs.Ytnkcdopjhjmdnaa.CoW Go.Proofs.Ytnkcdopjhjmdnaa.DcP
set_option linter.unusedVariables false
set_option linter.unusedSimpArgs false

theorem prog_l0 {t : List Int} (hn : None_ t) (ht : Bytes t) (A : Nat) (hA : A ≤ 1000000) (hAt : t.length ≤ A) : ∀ (l : List S32) (k : Nat) (acc : List S32), (∀ x ∈ l, GoodS x) → l.length < k → (encA l ++ t).length ≤ 1000000 → acc.length + l.length ≤ 1000000 →
    commitlog_DecodeV.l0 k (encA l ++ t) acc (A : Int) = some (acc ++ l, ((A - t.length : Nat) : Int)) := by
  intro l
  induction l with
  | nil =>
    intro k acc hg hk hl ha
    obtain ⟨k, rfl⟩ : ∃ j, k = j + 1 := ⟨k - 1, by simp at hk; omega⟩
    rw [show encA ([] : List S32) ++ t = t from rfl] at hl ⊢
    have e : wrap64 ((A : Int) - (t.length : Int)) = ((A - t.length : Nat) : Int) := by unfold wrap64; omega
    rw [commitlog_DecodeV.l0, commitlog_first.f_eq ht (by omega)]
    simp only [Option.bind_some]
    rw [if_pos (first_none ht hn).1, List.append_nil, e]
  | cons x l ih =>
    intro k acc hg hk hl ha
    obtain ⟨k, rfl⟩ : ∃ j, k = j + 1 := ⟨k - 1, by simp at hk; omega⟩
    rw [List.length_cons] at hk ha
    have hb : Bytes (encA (x :: l) ++ t) := bytes_app (bytes_encA _) ht
    have hp := encS_pos x
    rw [commitlog_DecodeV.l0, commitlog_first.f_eq hb hl]
    rw [encA_cons, List.append_assoc] at hl ⊢
    rw [List.length_append] at hl
    rw [(first_some (hg x List.mem_cons_self) (encA l ++ t)).1]
    simp only [Option.bind_some, Int.toNat_natCast]
    rw [if_neg (by omega), if_pos (by omega), if_pos (by omega), if_pos (by rw [List.length_append]; omega), List.drop_left]
    have h := ih k (acc ++ [x]) (fun y hy => hg y (List.mem_cons_of_mem _ hy)) (by omega) (by omega) (by rw [List.length_append, List.length_singleton]; omega)
    rw [List.append_assoc] at h
    exact h
theorem Decode_f {b : List Int} (hb : Bytes b) (hl : b.length ≤ 1000000) : commitlog_Decode.f b = some ((D b).1, (((D b).2 : Nat) : Int)) := by
  obtain ⟨l, t, e, hg, hn, hd⟩ := D_spec hb
  have hel := encA_len l
  have hbl := congrArg List.length e
  rw [List.length_append] at hbl
  have ht : Bytes t := fun y hy => hb y (by rw [e]; exact List.mem_append.2 (.inr hy))
  unfold commitlog_Decode.f commitlog_DecodeV.f
  have h := prog_l0 hn ht b.length (by omega) (by omega) l (b.length + 2) [] hg (by omega) (by rw [← e]; exact hl) (by simp; omega)
  rw [← e] at h
  rw [h, hd]
  simp only [List.nil_append]
  congr 3
  omega
end Go.Proofs.Ytnkcdopjhjmdnaa.DcQ
