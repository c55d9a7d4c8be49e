/- The abstract executor and plain facts, part 5 (of several texts, laid together). -/
import Derived.Test.YtpggiabnhodjpaaGreatDoorU1
import Derived.Test.YtpggiabnhodjpaaGreatDoorU2
import Derived.Test.YtpggiabnhodjpaaGreatDoorU3
import Derived.Test.YtpggiabnhodjpaaGreatDoorU4
import Derived.Test.YtpggiabnhodjpaaGreatDoorMod38e
import Derived.Test.YtpggiabnhodjpaaGreatDoorT18t

set_option linter.unusedSimpArgs false
set_option linter.unusedVariables false
set_option linter.deprecated false
set_option maxRecDepth 100000
namespace Go.Ax
def st3 (P V I : Rat) (i : Nat) : Rat := if i = 0 then P else if i = 1 then V else I
theorem sum3 (f : Nat → Rat) : sumQ 3 f = f 0 + f 1 + f 2 := by simp only [sumQ]; grind
theorem absQ_neg (x : Rat) : absQ (-x) = absQ x := by unfold absQ; split <;> split <;> grind
theorem absQ_le_of {x : Rat} {c : Rat} (h1 : 0 ≤ x) (h2 : x ≤ c) : absQ x ≤ c := by rw [absQ_of_nn h1]; exact h2
theorem mul_le_mul4 {a b c d : Rat} (h1 : 0 ≤ a) (h2 : a ≤ b) (h3 : 0 ≤ c) (h4 : c ≤ d) : a * c ≤ b * d :=
  Rat.le_trans (Rat.mul_le_mul_of_nonneg_right h2 h3) (Rat.mul_le_mul_of_nonneg_left h4 (Rat.le_trans h1 h2))
theorem serve_next {K n : Nat} {A D : Nat → Nat → Rat} {w x y : Nat → Rat} {g h a b kk M ds P V I h' η r ε : Rat} (h1 : 1 ≤ K) (acc : QAcc 3 K A D w x y)
    (hA0 : A 0 0 = 1 - g * a * kk ∧ A 0 1 = 1 - g * a ∧ A 0 2 = g) (hA1 : A 1 0 = -(g * a * kk) ∧ A 1 1 = 1 - g * a ∧ A 1 2 = g) (hA2 : A 2 0 = -(b * kk) ∧ A 2 1 = -b ∧ A 2 2 = 1)
    (hD0 : D 0 0 = h * a * kk ∧ D 0 1 = h * a ∧ D 0 2 = h) (hD1 : D 1 0 = h * a * kk ∧ D 1 1 = h * a ∧ D 1 2 = h) (hD2 : D 2 0 = 0 ∧ D 2 1 = 0 ∧ D 2 2 = 0)
    (hw : w 0 = (g + h) * (2 * (a * M) + 1) + ds ∧ w 1 = (g + h) * (2 * (a * M) + 1) + ds ∧ w 2 = 2 * (b * M))
    (ng : 0 ≤ g) (nh : 0 ≤ h) (na : 0 ≤ a) (nb : 0 ≤ b) (nk : 0 ≤ kk) (nM : 0 ≤ M) (H : QInv 3 K A D w x y n (st3 P V I))
    (hh : absQ h' ≤ h) (hη : 0 ≤ η ∧ η ≤ 2 * (a * M) + 1) (hr : absQ r ≤ ds) (hε : 0 ≤ ε ∧ ε ≤ 2) :
    QInv 3 K A D w x y (n + 1) (st3 (P + (V + (g + h') * (I - a * kk * P - a * V - η) + r)) (V + (g + h') * (I - a * kk * P - a * V - η) + r) (I - b * kk * P - b * V - b * M * ε)) := by
  have y0 := H.high h1 acc (i := 0) (by omega)
  have y1 := H.high h1 acc (i := 1) (by omega)
  have y2 := H.high h1 acc (i := 2) (by omega)
  change absQ P ≤ y 0 at y0
  change absQ V ≤ y 1 at y1
  change absQ I ≤ y 2 at y2
  obtain ⟨a00, a01, a02⟩ := hA0
  obtain ⟨a10, a11, a12⟩ := hA1
  obtain ⟨a20, a21, a22⟩ := hA2
  obtain ⟨d00, d01, d02⟩ := hD0
  obtain ⟨d10, d11, d12⟩ := hD1
  obtain ⟨d20, d21, d22⟩ := hD2
  obtain ⟨w0, w1, w2⟩ := hw
  have nak : 0 ≤ a * kk := Rat.mul_nonneg na nk
  have nη : 0 ≤ 2 * (a * M) + 1 := Rat.le_trans hη.1 hη.2
  have pb : absQ (h' * (I - a * kk * P - a * V) - (g + h') * η + r) ≤ h * a * kk * y 0 + h * a * y 1 + h * y 2 + ((g + h) * (2 * (a * M) + 1) + ds) := by
    have e : h' * (I - a * kk * P - a * V) - (g + h') * η + r = h' * I + (h' * (-(a * kk * P)) + (h' * (-(a * V)) + (-(((g + h') * η)) + r))) := by grind
    rw [e]
    have t1 : absQ (h' * I) ≤ h * y 2 := by rw [absQ_mul]; exact mul_le_mul4 (absQ_nn _) hh (absQ_nn _) y2
    have t2 : absQ (h' * (-(a * kk * P))) ≤ h * (a * kk * y 0) := by
      rw [absQ_mul, absQ_neg, absQ_mul, absQ_of_nn nak]
      exact mul_le_mul4 (absQ_nn _) hh (Rat.mul_nonneg nak (absQ_nn _)) (Rat.mul_le_mul_of_nonneg_left y0 nak)
    have t3 : absQ (h' * (-(a * V))) ≤ h * (a * y 1) := by
      rw [absQ_mul, absQ_neg, absQ_mul, absQ_of_nn na]
      exact mul_le_mul4 (absQ_nn _) hh (Rat.mul_nonneg na (absQ_nn _)) (Rat.mul_le_mul_of_nonneg_left y1 na)
    have t4 : absQ (-((g + h') * η)) ≤ (g + h) * (2 * (a * M) + 1) := by
      rw [absQ_neg, absQ_mul, absQ_of_nn hη.1]
      have q := absQ_add g h'
      rw [absQ_of_nn ng] at q
      exact mul_le_mul4 (absQ_nn _) (by grind) hη.1 hη.2
    have s1 := absQ_add (h' * I) (h' * (-(a * kk * P)) + (h' * (-(a * V)) + (-(((g + h') * η)) + r)))
    have s2 := absQ_add (h' * (-(a * kk * P))) (h' * (-(a * V)) + (-(((g + h') * η)) + r))
    have s3 := absQ_add (h' * (-(a * V))) (-(((g + h') * η)) + r)
    have s4 := absQ_add (-(((g + h') * η))) r
    grind
  have pi : absQ (-(b * M * ε)) ≤ 2 * (b * M) := by
    rw [absQ_neg]
    have nbM := Rat.mul_nonneg nb nM
    refine absQ_le_of (Rat.mul_nonneg nbM hε.1) ?_
    have := Rat.mul_le_mul_of_nonneg_left hε.2 nbM
    grind
  refine QInv.next (p := fun i => if i = 2 then -(b * M * ε) else h' * (I - a * kk * P - a * V) - (g + h') * η + r) h1 acc H (fun i hi => ?_) (fun i hi => ?_)
  · unfold pushQ
    rw [sum3]
    match i, hi with
    | 0, _ => rw [if_neg (by omega), d00, d01, d02, w0]; exact pb
    | 1, _ => rw [if_neg (by omega), d10, d11, d12, w1]; exact pb
    | 2, _ => rw [if_pos rfl, d20, d21, d22, w2]; grind
  · rw [sum3]
    match i, hi with
    | 0, _ =>
      show P + (V + (g + h') * (I - a * kk * P - a * V - η) + r) = A 0 0 * P + A 0 1 * V + A 0 2 * I + (h' * (I - a * kk * P - a * V) - (g + h') * η + r)
      rw [a00, a01, a02]; grind
    | 1, _ =>
      show V + (g + h') * (I - a * kk * P - a * V - η) + r = A 1 0 * P + A 1 1 * V + A 1 2 * I + (h' * (I - a * kk * P - a * V) - (g + h') * η + r)
      rw [a10, a11, a12]; grind
    | 2, _ =>
      show I - b * kk * P - b * V - b * M * ε = A 2 0 * P + A 2 1 * V + A 2 2 * I + -(b * M * ε)
      rw [a20, a21, a22]; grind
theorem floor_q {n d q : Int} (hd : 0 < d) (h : q = n / d) : (q : Rat) * (d : Rat) ≤ (n : Rat) ∧ (n : Rat) < (q : Rat) * (d : Rat) + (d : Rat) := by
  have h1 : q * d ≤ n := by rw [h]; exact Int.ediv_mul_le _ (by omega)
  have h2 : n < q * d + d := by rw [h]; have := Int.lt_ediv_add_one_mul_self n hd; rw [Int.add_mul] at this; omega
  exact ⟨by exact_mod_cast h1, by exact_mod_cast h2⟩
theorem tdiv_q {n d : Int} (hd : 0 < d) : ∃ t : Rat, absQ t ≤ 1 ∧ ((n.tdiv d : Int) : Rat) = (n : Rat) / (d : Rat) - t := by
  have hd' : (0 : Rat) < (d : Rat) := by exact_mod_cast hd
  have e := Int.mul_tdiv_add_tmod n d
  have b1 := Int.tmod_lt_of_pos n hd
  have b2 : -d < n.tmod d := by
    have := Int.tmod_lt_of_pos (-n) hd
    rw [Int.neg_tmod] at this; omega
  generalize n.tdiv d = q at *
  generalize n.tmod d = r at *
  have e' : (d : Rat) * (q : Rat) + (r : Rat) = (n : Rat) := by exact_mod_cast e
  have c1 : (r : Rat) < (d : Rat) := by exact_mod_cast b1
  have c2 : -(d : Rat) < (r : Rat) := by exact_mod_cast b2
  refine ⟨(r : Rat) / (d : Rat), ?_, ?_⟩
  · rw [absQ_le]
    have hd2 : (r : Rat) / (d : Rat) * (d : Rat) = (r : Rat) := Rat.div_mul_cancel (by grind)
    constructor
    · exact Rat.le_of_mul_le_mul_right (by rw [hd2, Rat.one_mul]; grind) hd'
    · exact Rat.le_of_mul_le_mul_right (by rw [Rat.neg_mul, hd2, Rat.one_mul]; grind) hd'
  · rw [← e']
    have h1 : ((d : Rat) * (q : Rat) + (r : Rat)) / (d : Rat) = (q : Rat) + (r : Rat) / (d : Rat) := by
      have : (d : Rat) ≠ 0 := by grind
      rw [Rat.div_def, Rat.div_def, Rat.add_mul]
      have : (d : Rat) * (q : Rat) * (d : Rat)⁻¹ = (q : Rat) := by
        rw [Rat.mul_comm (d : Rat) (q : Rat), Rat.mul_assoc, Rat.mul_inv_cancel _ this, Rat.mul_one]
      rw [this]
    rw [h1]; grind
end Go.Ax
set_option linter.unusedSimpArgs false
set_option linter.unusedVariables false
set_option linter.deprecated false
namespace Go.Proofs.YtpggiabnhodjpaaGreatDoor
open Go Go.Ax
set_option maxRecDepth 100000
set_option maxHeartbeats 8000000
theorem tms2_v {x y : Dy} (h : x.d + y.d ≤ 60000) : (tms [x, y]).v = x.v * y.v ∧ (tms [x, y]).d ≤ x.d + y.d := by
  show (((Dy.int 1).mul x).mul y).v = _ ∧ (((Dy.int 1).mul x).mul y).d ≤ _
  rw [one_mul]
  exact ⟨Dy.v_mul_of _ _ (by omega), Dy.d_mul_le _ _ (by omega)⟩
theorem tms3_v {x y z : Dy} (h : x.d + y.d + z.d ≤ 60000) : (tms [x, y, z]).v = x.v * y.v * z.v ∧ (tms [x, y, z]).d ≤ x.d + y.d + z.d := by
  show ((((Dy.int 1).mul x).mul y).mul z).v = _ ∧ ((((Dy.int 1).mul x).mul y).mul z).d ≤ _
  rw [one_mul]
  have h1 := Dy.d_mul_le x y (by omega)
  have h2 := Dy.d_mul_le (x.mul y) z (by omega)
  exact ⟨by rw [Dy.v_mul_of _ _ (by omega), Dy.v_mul_of _ _ (by omega)], by omega⟩
theorem sh_v {x : Dy} {sh : Int} (hs : 0 ≤ sh ∧ sh ≤ 30) : (x.shift (sh + 1)).v = x.v * (2 * 2 ^ sh.toNat) ∧ (x.shift (sh + 1)).d ≤ x.d := by
  have hx := x.ok.1
  rw [← sh_mul hs]
  have hd : (Dy.int (2 * 2 ^ sh.toNat)).d = 0 := rfl
  show (((Dy.int 1).mul x).mul _).v = _ ∧ (((Dy.int 1).mul x).mul _).d ≤ _
  rw [one_mul]
  refine ⟨?_, ?_⟩
  · rw [Dy.v_mul_of _ _ (by omega), Dy.v_int, Rat.intCast_mul, p2int]; rfl
  · have := Dy.d_mul_le x (Dy.int (2 * 2 ^ sh.toNat)) (by omega); omega
structure SvV (gn dv kv kp ki sh : Int) (g hh k a b : Dy) : Prop where
  vg : g.v * 65536 = (gn : Rat)
  vh : hh.v * 65536 = (dv : Rat)
  vk : k.v * 4096 = (kv : Rat)
  va : a.v * (4096 * 2 ^ sh.toNat) = (kp : Rat) + (ki : Rat)
  vb : b.v * (4096 * 2 ^ sh.toNat) = (ki : Rat)
  dg : g.d ≤ 16
  dh : hh.d ≤ 16
  dk : k.d ≤ 12
  da : a.d ≤ 24
  db : b.d ≤ 24
  mg : Mg 21 g
  mh : Mg 21 hh
  mkq : Mg 13 k
  ma : Mg 18 a
  mb : Mg 18 b
theorem svV {gn dv kv kp ki sh : Int} (hg : 0 ≤ gn ∧ gn ≤ 1048576) (hd : 0 ≤ dv ∧ dv ≤ gn) (hk : 0 ≤ kv ∧ kv ≤ 4096) (hp : 0 ≤ kp ∧ kp ≤ 65536) (hi : 0 ≤ ki ∧ ki ≤ 65536) (hs : 0 ≤ sh ∧ sh ≤ 12) :
    SvV gn dv kv kp ki sh (nrm gn 16) (nrm dv 16) (nrm kv 12) (nrm (kp + ki) (12 + sh).toNat) (nrm ki (12 + sh).toNat) := by
  have p16 : (2 : Rat) ^ 16 = 65536 := by decide +kernel
  have p12 : (2 : Rat) ^ 12 = 4096 := by decide +kernel
  have e : (12 + sh).toNat = 12 + sh.toNat := by omega
  have ps : (2 : Rat) ^ (12 + sh).toNat = 4096 * 2 ^ sh.toNat := by rw [e, ← p12]; grind
  have n21 : (2 : Nat) ^ 21 = 2097152 := by decide
  have n13 : (2 : Nat) ^ 13 = 8192 := by decide
  have n18 : (2 : Nat) ^ 18 = 262144 := by decide
  have mw : ∀ {z : Int} {d : Nat}, z.natAbs < 262144 → Mg 18 (nrm z d) := fun {z d} h => mg_nrm (Nat.lt_of_lt_of_le (show z.natAbs < 2 ^ 18 by omega) (Nat.pow_le_pow_right (by omega) (Nat.le_add_right _ _)))
  refine ⟨?_, ?_, ?_, ?_, ?_, Dy.d_nrm (by omega), Dy.d_nrm (by omega), Dy.d_nrm (by omega), Nat.le_trans (Dy.d_nrm (by omega)) (by omega), Nat.le_trans (Dy.d_nrm (by omega)) (by omega), mg_nrm (by omega), mg_nrm (by omega), mg_nrm (by omega), mw (by omega), mw (by omega)⟩
  · rw [← p16]; exact v_nrm_mul (by omega)
  · rw [← p16]; exact v_nrm_mul (by omega)
  · rw [← p12]; exact v_nrm_mul (by omega)
  · rw [← ps, v_nrm_mul (by omega), Rat.intCast_add]
  · rw [← ps]; exact v_nrm_mul (by omega)
theorem p2one (n : Nat) : (1 : Rat) ≤ 2 ^ n := by
  have := p2le (Nat.zero_le n)
  rwa [Rat.pow_zero] at this
theorem nn_of {x : Rat} {n : Int} {c : Rat} (hc : 0 < c) (h : x * c = (n : Rat)) (hn : 0 ≤ n) : 0 ≤ x := by
  have h1 : (0 : Rat) ≤ (n : Rat) := by exact_mod_cast hn
  exact Rat.not_lt.1 fun hx => by
    have := Rat.mul_lt_mul_of_pos_right hx hc
    rw [Rat.zero_mul, h] at this
    exact Rat.not_lt.2 h1 this
section
variable {gn dv kv kp ki sh ds : Int} {g hh k a b : Dy}
theorem m38_facts (X : SvV gn dv kv kp ki sh g hh k a b) (hs : 0 ≤ sh ∧ sh ≤ 12) (hd : 0 ≤ ds ∧ ds ≤ 1099511627776) :
    okM 64 (crM (m38A g a b k)) ∧ okM 64 (crM (m38D hh a k)) ∧ okV 64 ((m38W g hh a b sh ds).map can) ∧ fine 60 (m38A g a b k) ∧ fine 60 (m38D hh a k) ∧ fineV 60 (m38W g hh a b sh ds) := by
  obtain ⟨_, _, _, _, _, dg, dh, dk, da, db, mg, mh, mk, ma, mb⟩ := X
  have g1 : Mg 1 (Dy.int 1) := Mg.int (by decide)
  have z1 : Mg 64 Dy.zero := Mg.zero _
  have one0 : (Dy.int 1).d = 0 := rfl
  have t3 : ∀ x y z : Dy, Mg 21 x → Mg 18 y → Mg 13 z → Mg 53 (tms [x, y, z]) := fun x y z h1 h2 h3 => by
    show Mg 53 ((((Dy.int 1).mul x).mul y).mul z)
    rw [one_mul]; exact ((h1.mul h2).mul h3).mono (by omega)
  have t2 : ∀ x y : Dy, Mg 21 x → Mg 18 y → Mg 53 (tms [x, y]) := fun x y h1 h2 => by
    show Mg 53 (((Dy.int 1).mul x).mul y)
    rw [one_mul]; exact (h1.mul h2).mono (by omega)
  have t2b : Mg 53 (tms [b, k]) := by
    show Mg 53 (((Dy.int 1).mul b).mul k)
    rw [one_mul]; exact (mb.mul mk).mono (by omega)
  have m1 := t3 g a k mg ma mk
  have m2 := t2 g a mg ma
  have m3 := t3 hh a k mh ma mk
  have m4 := t2 hh a mh ma
  have u {j : Nat} {x : Dy} (q : Mg j x) (hj : j ≤ 64 := by omega) : Mg 64 x := q.mono hj
  have s1 : Mg 64 ((Dy.int 1).sub (tms [g, a, k])) := u ((g1.mono (show 1 ≤ 53 by omega)).sub m1)
  have s2 : Mg 64 ((Dy.int 1).sub (tms [g, a])) := u ((g1.mono (show 1 ≤ 53 by omega)).sub m2)
  have d1 := (tms3_v (x := g) (y := a) (z := k) (by omega)).2
  have d2 := (tms2_v (x := g) (y := a) (by omega)).2
  have d3 := (tms3_v (x := hh) (y := a) (z := k) (by omega)).2
  have d4 := (tms2_v (x := hh) (y := a) (by omega)).2
  have d5 := (tms2_v (x := b) (y := k) (by omega)).2
  have dsub : ∀ x : Dy, ((Dy.int 1).sub x).d ≤ x.d := fun x => by
    have := Dy.d_add (Dy.int 1) x.neg
    have e : x.neg.d = x.d := rfl
    unfold Dy.sub; omega
  have e1 := dsub (tms [g, a, k])
  have e2 := dsub (tms [g, a])
  have n1 : (tms [g, a, k]).neg.d = (tms [g, a, k]).d := rfl
  have n2 : (tms [b, k]).neg.d = (tms [b, k]).d := rfl
  have n3 : b.neg.d = b.d := rfl
  -- the pushes
  have ca := sh_v (x := a) (sh := sh) (by omega)
  have cb := sh_v (x := b) (sh := sh) (by omega)
  have q1 := Dy.d_add g hh
  have q2 := Dy.d_add (a.shift (sh + 1)) (Dy.int 1)
  have q3 := (tms2_v (x := g.add hh) (y := (a.shift (sh + 1)).add (Dy.int 1)) (by omega)).2
  have q4 := Dy.d_add (tms [g.add hh, (a.shift (sh + 1)).add (Dy.int 1)]) (Dy.int ds)
  have i0 : (Dy.int ds).d = 0 := rfl
  have wd : (m38w g hh a sh ds).d ≤ 60 := by unfold m38w; omega
  have ma2 : Mg 31 (a.shift (sh + 1)) := (ma.shift (sh + 1)).mono (by unfold clipD; omega)
  have mb2 : Mg 31 (b.shift (sh + 1)) := (mb.shift (sh + 1)).mono (by unfold clipD; omega)
  have mds : Mg 54 (Dy.int ds) := Mg.int (by have : (2 : Nat) ^ 54 = 18014398509481984 := by decide
                                             omega)
  have mw : Mg 64 (m38w g hh a sh ds) := by
    unfold m38w
    have w1 : Mg 54 (tms [g.add hh, (a.shift (sh + 1)).add (Dy.int 1)]) := by
      show Mg 54 (((Dy.int 1).mul _).mul _)
      rw [one_mul]
      exact ((Mg.add mg mh).mul (Mg.add ma2 (g1.mono (by omega)))).mono (by omega)
    exact u (Mg.add w1 mds)
  refine ⟨okM_cr (fun i j => ?_) (by omega), okM_cr (fun i j => ?_) (by omega), okV_can (fun i => ?_) (by omega), fun i j => ?_, fun i j => ?_, fun i => ?_⟩
  · match i, j with
    | 0, 0 => exact s1
    | 0, 1 => exact s2
    | 0, 2 => exact u mg
    | 0, j + 3 => exact z1
    | 1, 0 => exact u m1.neg
    | 1, 1 => exact s2
    | 1, 2 => exact u mg
    | 1, j + 3 => exact z1
    | 2, 0 => exact u t2b.neg
    | 2, 1 => exact u mb.neg
    | 2, 2 => exact u g1
    | 2, j + 3 => exact z1
    | i + 3, j => exact z1
  · match i, j with
    | 0, 0 => exact u m3
    | 0, 1 => exact u m4
    | 0, 2 => exact u mh
    | 0, j + 3 => exact z1
    | 1, 0 => exact u m3
    | 1, 1 => exact u m4
    | 1, 2 => exact u mh
    | 1, j + 3 => exact z1
    | 2, 0 => exact z1
    | 2, 1 => exact z1
    | 2, 2 => exact z1
    | 2, j + 3 => exact z1
    | i + 3, j => exact z1
  · match i with
    | 0 => exact mw
    | 1 => exact mw
    | 2 => exact u mb2
    | i + 3 => exact z1
  · match i, j with
    | 0, 0 => show ((Dy.int 1).sub (tms [g, a, k])).d ≤ 60; omega
    | 0, 1 => show ((Dy.int 1).sub (tms [g, a])).d ≤ 60; omega
    | 0, 2 => show g.d ≤ 60; omega
    | 0, j + 3 => exact Nat.zero_le _
    | 1, 0 => show (tms [g, a, k]).neg.d ≤ 60; omega
    | 1, 1 => show ((Dy.int 1).sub (tms [g, a])).d ≤ 60; omega
    | 1, 2 => show g.d ≤ 60; omega
    | 1, j + 3 => exact Nat.zero_le _
    | 2, 0 => show (tms [b, k]).neg.d ≤ 60; omega
    | 2, 1 => show b.neg.d ≤ 60; omega
    | 2, 2 => show (Dy.int 1).d ≤ 60; omega
    | 2, j + 3 => exact Nat.zero_le _
    | i + 3, j => exact Nat.zero_le _
  · match i, j with
    | 0, 0 => show (tms [hh, a, k]).d ≤ 60; omega
    | 0, 1 => show (tms [hh, a]).d ≤ 60; omega
    | 0, 2 => show hh.d ≤ 60; omega
    | 0, j + 3 => exact Nat.zero_le _
    | 1, 0 => show (tms [hh, a, k]).d ≤ 60; omega
    | 1, 1 => show (tms [hh, a]).d ≤ 60; omega
    | 1, 2 => show hh.d ≤ 60; omega
    | 1, j + 3 => exact Nat.zero_le _
    | 2, 0 => exact Nat.zero_le _
    | 2, 1 => exact Nat.zero_le _
    | 2, 2 => exact Nat.zero_le _
    | 2, j + 3 => exact Nat.zero_le _
    | i + 3, j => exact Nat.zero_le _
  · match i with
    | 0 => exact wd
    | 1 => exact wd
    | 2 => show (b.shift (sh + 1)).d ≤ 60; omega
    | i + 3 => exact Nat.zero_le _
theorem serve_tick {K n : Nat} {x y : Nat → Rat} (X : SvV gn dv kv kp ki sh g hh k a b) (hs : 0 ≤ sh ∧ sh ≤ 12) (hg : 0 ≤ gn ∧ gn ≤ 1048576) (hd : 0 ≤ dv ∧ dv ≤ gn) (hk : 0 ≤ kv ∧ kv ≤ 4096) (hp : 0 ≤ kp ∧ kp ≤ 65536) (hi : 0 ≤ ki ∧ ki ≤ 65536)
    (h1 : 1 ≤ K) (acc : QAcc 3 K (elQ (m38A g a b k)) (elQ (m38D hh a k)) (vQ (m38W g hh a b sh ds)) x y) {P V S G push : Int} (H : QInv 3 K (elQ (m38A g a b k)) (elQ (m38D hh a k)) (vQ (m38W g hh a b sh ds)) x y n (st3 (P : Rat) (V : Rat) ((S : Rat) / 4096)))
    (hG : gn - dv ≤ G ∧ G ≤ gn + dv) (hpu : 1 - ds ≤ push ∧ push ≤ ds - 1) {q e T : Int} (hq : q = kv * (-P) / 4096) (he : e = (q - V) / 2 ^ sh.toNat) (hT : T = (S + ki * e + kp * e) / 4096) :
    QInv 3 K (elQ (m38A g a b k)) (elQ (m38D hh a k)) (vQ (m38W g hh a b sh ds)) x y (n + 1) (st3 ((P + (V + ((T * G).tdiv 65536 + push)) : Int) : Rat) ((V + ((T * G).tdiv 65536 + push) : Int) : Rat) (((S + ki * e : Int) : Rat) / 4096)) := by
  have hM : (0 : Rat) < 2 ^ sh.toNat := p2pos _
  have hM1 : (1 : Rat) ≤ 2 ^ sh.toNat := p2one _
  have hMi : (0 : Int) < 2 ^ sh.toNat := Int.pow_pos (by decide)
  have c4 : (0 : Rat) < 4096 * 2 ^ sh.toNat := Rat.mul_pos (by decide) hM
  have ng := nn_of (c := 65536) (by decide) X.vg hg.1
  have nh := nn_of (c := 65536) (by decide) X.vh hd.1
  have nk := nn_of (c := 4096) (by decide) X.vk hk.1
  have na := nn_of (n := kp + ki) c4 (by rw [X.va, Rat.intCast_add]) (by omega)
  have nb := nn_of c4 X.vb hi.1
  obtain ⟨f1, f2⟩ := floor_q (by decide) hq
  obtain ⟨f3, f4⟩ := floor_q hMi he
  obtain ⟨f5, f6⟩ := floor_q (by decide) hT
  obtain ⟨t, ht1, ht2⟩ := tdiv_q (n := T * G) (d := 65536) (by decide)
  have k4 : ((4096 : Int) : Rat) = 4096 := rfl
  have k65 : ((65536 : Int) : Rat) = 65536 := rfl
  rw [k4, Rat.intCast_mul, Rat.intCast_neg] at f1 f2
  rw [p2int, Rat.intCast_sub] at f3 f4
  rw [k4, Rat.intCast_add, Rat.intCast_add, Rat.intCast_mul, Rat.intCast_mul] at f5 f6
  rw [k65, Rat.intCast_mul] at ht2
  -- the numbers of the model
  obtain ⟨xg, xh, xk, xa, xb, dg, dh, dk, da, db, _, _, _, _, _⟩ := X
  have v1 := (tms3_v (x := g) (y := a) (z := k) (by omega)).1
  have v2 := (tms2_v (x := g) (y := a) (by omega)).1
  have v3 := (tms3_v (x := hh) (y := a) (z := k) (by omega)).1
  have v4 := (tms2_v (x := hh) (y := a) (by omega)).1
  have v5 := (tms2_v (x := b) (y := k) (by omega)).1
  have ca := sh_v (x := a) (sh := sh) (by omega)
  have cb := sh_v (x := b) (sh := sh) (by omega)
  have q1 := Dy.d_add g hh
  have q2 := Dy.d_add (a.shift (sh + 1)) (Dy.int 1)
  have one0 : (Dy.int 1).d = 0 := rfl
  have v6 := (tms2_v (x := g.add hh) (y := (a.shift (sh + 1)).add (Dy.int 1)) (by omega)).1
  rw [Dy.v_add, Dy.v_add, ca.1, v_int1] at v6
  have wv : (m38w g hh a sh ds).v = (g.v + hh.v) * (2 * (a.v * 2 ^ sh.toNat) + 1) + (ds : Rat) := by
    unfold m38w
    rw [Dy.v_add, v6, Dy.v_int]; grind
  clear v6 ca q1 q2
  have hA0 : elQ (m38A g a b k) 0 0 = 1 - g.v * a.v * k.v ∧ elQ (m38A g a b k) 0 1 = 1 - g.v * a.v ∧ elQ (m38A g a b k) 0 2 = g.v :=
    ⟨by show ((Dy.int 1).sub (tms [g, a, k])).v = _; rw [Dy.v_sub, v_int1, v1], by show ((Dy.int 1).sub (tms [g, a])).v = _; rw [Dy.v_sub, v_int1, v2], rfl⟩
  have hA1 : elQ (m38A g a b k) 1 0 = -(g.v * a.v * k.v) ∧ elQ (m38A g a b k) 1 1 = 1 - g.v * a.v ∧ elQ (m38A g a b k) 1 2 = g.v :=
    ⟨by show (tms [g, a, k]).neg.v = _; rw [Dy.v_neg, v1], by show ((Dy.int 1).sub (tms [g, a])).v = _; rw [Dy.v_sub, v_int1, v2], rfl⟩
  have hA2 : elQ (m38A g a b k) 2 0 = -(b.v * k.v) ∧ elQ (m38A g a b k) 2 1 = -b.v ∧ elQ (m38A g a b k) 2 2 = 1 :=
    ⟨by show (tms [b, k]).neg.v = _; rw [Dy.v_neg, v5], by show b.neg.v = _; rw [Dy.v_neg], v_int1⟩
  have hD0 : elQ (m38D hh a k) 0 0 = hh.v * a.v * k.v ∧ elQ (m38D hh a k) 0 1 = hh.v * a.v ∧ elQ (m38D hh a k) 0 2 = hh.v := ⟨v3, v4, rfl⟩
  have hD1 : elQ (m38D hh a k) 1 0 = hh.v * a.v * k.v ∧ elQ (m38D hh a k) 1 1 = hh.v * a.v ∧ elQ (m38D hh a k) 1 2 = hh.v := ⟨v3, v4, rfl⟩
  have hD2 : elQ (m38D hh a k) 2 0 = 0 ∧ elQ (m38D hh a k) 2 1 = 0 ∧ elQ (m38D hh a k) 2 2 = 0 := ⟨Dy.v_zero, Dy.v_zero, Dy.v_zero⟩
  have hW : vQ (m38W g hh a b sh ds) 0 = (g.v + hh.v) * (2 * (a.v * 2 ^ sh.toNat) + 1) + (ds : Rat) ∧ vQ (m38W g hh a b sh ds) 1 = (g.v + hh.v) * (2 * (a.v * 2 ^ sh.toNat) + 1) + (ds : Rat) ∧ vQ (m38W g hh a b sh ds) 2 = 2 * (b.v * 2 ^ sh.toNat) :=
    ⟨wv, wv, by show (b.shift (sh + 1)).v = _; rw [cb.1]; grind⟩
  clear wv v1 v2 v3 v4 v5 cb dg dh dk da db
  have G1 : (gn : Rat) - (dv : Rat) ≤ (G : Rat) := by exact_mod_cast hG.1
  have G2 : (G : Rat) ≤ (gn : Rat) + (dv : Rat) := by exact_mod_cast hG.2
  have P1 : (1 : Rat) - (ds : Rat) ≤ (push : Rat) := by exact_mod_cast hpu.1
  have P2 : (push : Rat) ≤ (ds : Rat) - 1 := by exact_mod_cast hpu.2
  rw [absQ_le] at ht1
  generalize hMM : (2 : Rat) ^ sh.toNat = M at *
  generalize elQ (m38A g a b k) = AA at *
  generalize elQ (m38D hh a k) = DD at *
  generalize vQ (m38W g hh a b sh ds) = WW at *
  generalize g.v = gv at *
  generalize hh.v = hv at *
  generalize k.v = kq at *
  generalize a.v = av at *
  generalize b.v = bv at *
  have eT : (((P + (V + ((T * G).tdiv 65536 + push)) : Int) : Rat)) = (P : Rat) + ((V : Rat) + ((((T * G).tdiv 65536 : Int) : Rat) + (push : Rat))) := by rw [Rat.intCast_add, Rat.intCast_add, Rat.intCast_add]
  have eV : (((V + ((T * G).tdiv 65536 + push) : Int) : Rat)) = (V : Rat) + ((((T * G).tdiv 65536 : Int) : Rat) + (push : Rat)) := by rw [Rat.intCast_add, Rat.intCast_add]
  have eS : (((S + ki * e : Int) : Rat)) = (S : Rat) + (ki : Rat) * (e : Rat) := by rw [Rat.intCast_add, Rat.intCast_mul]
  rw [eT, eV, eS, ht2]
  clear eT eV eS ht2 hq he hT hG hpu hg hd hk hp hi hs hMi c4
  generalize (P : Rat) = Pq at *
  generalize (V : Rat) = Vq at *
  generalize (S : Rat) = Sq at *
  generalize (G : Rat) = Gq at *
  generalize (push : Rat) = pq at *
  generalize (q : Rat) = qq at *
  generalize (e : Rat) = eq at *
  generalize (T : Rat) = Tq at *
  generalize (kv : Rat) = kvq at *
  generalize (kp : Rat) = kpq at *
  generalize (ki : Rat) = kiq at *
  generalize (gn : Rat) = gnq at *
  generalize (dv : Rat) = dvq at *
  generalize (ds : Rat) = dsq at *
  -- the floors
  have h1' : kvq * -Pq = 4096 * (-(kq * Pq)) := by rw [← xk]; grind
  rw [h1'] at f1 f2
  have h2' : kiq * eq + kpq * eq = 4096 * (av * (M * eq)) := by
    have : kiq * eq + kpq * eq = (kpq + kiq) * eq := by grind
    rw [this, ← xa]; grind
  have h3' : kiq * eq = 4096 * (bv * (M * eq)) := by rw [← xb]; grind
  obtain ⟨E, hE⟩ : ∃ E, E = -(kq * Pq) - Vq - eq * M := ⟨_, rfl⟩
  have E0 : 0 ≤ E := by grind
  have E1 : E ≤ 2 * M := by grind
  have hMe : M * eq = -(kq * Pq) - Vq - E := by grind
  have aE0 : 0 ≤ av * E := Rat.mul_nonneg na E0
  have aE1 : av * E ≤ av * (2 * M) := Rat.mul_le_mul_of_nonneg_left E1 na
  have haM : av * (M * eq) = -(av * kq * Pq) - av * Vq - av * E := by rw [hMe]; grind
  have hbM : bv * (M * eq) = -(bv * kq * Pq) - bv * Vq - bv * E := by rw [hMe]; grind
  have hM0 : M ≠ 0 := by grind
  have hdiv : E / M * M = E := Rat.div_mul_cancel hM0
  have N := serve_next (M := M) (h' := Gq / 65536 - gv) (η := Sq / 4096 - av * kq * Pq - av * Vq - Tq) (r := pq - t) (ε := E / M) h1 acc hA0 hA1 hA2 hD0 hD1 hD2 hW ng nh na nb nk (by grind) H
    (by rw [absQ_le]; constructor <;> grind) (by constructor <;> grind) (by rw [absQ_le]; constructor <;> grind)
    (by
      constructor
      · exact Rat.not_lt.1 fun hn => by
          have := Rat.mul_lt_mul_of_pos_right hn hM
          rw [hdiv, Rat.zero_mul] at this
          exact Rat.not_lt.2 E0 this
      · exact Rat.le_of_mul_le_mul_right (by rw [hdiv]; exact E1) hM)
  have r1 : Vq + (gv + (Gq / 65536 - gv)) * (Sq / 4096 - av * kq * Pq - av * Vq - (Sq / 4096 - av * kq * Pq - av * Vq - Tq)) + (pq - t) = Vq + (Tq * Gq / 65536 - t + pq) := by grind
  have r2 : Sq / 4096 - bv * kq * Pq - bv * Vq - bv * M * (E / M) = (Sq + kiq * eq) / 4096 := by
    have : bv * M * (E / M) = bv * E := by rw [Rat.mul_assoc, Rat.mul_comm M, hdiv]
    rw [this, h3']; grind
  rw [r1, r2] at N
  exact N
end
end Go.Proofs.YtpggiabnhodjpaaGreatDoor
set_option linter.unusedSimpArgs false
set_option linter.unusedVariables false
set_option linter.deprecated false
namespace Go.Proofs.YtpggiabnhodjpaaGreatDoor
open Go Go.Ax
set_option maxRecDepth 100000
set_option maxHeartbeats 8000000
theorem base_Abs (n : Int) (h : -4611686018427387904 ≤ n ∧ n ≤ 4611686018427387904) : CallOK Tryz.prog gl 103 [.v (.int .i64 n)] (.v (.int .i64 ((max n (0 - n))))) := by
  refine call_ok (C := ⟨Tryz.prog, gl, ti, 9, false⟩) ti_ok mixed 3000 Tryz.call103 Tryz.func103 rfl Tryz.ntmps103 (by simp) byClL byCl ?_
  rw [Tryz.results103]
  repeat' (first | (simp only [go_sem, seval, IntKind.bits.eq_def, ti, tin]) | (simp (disch := omega) only [wA]) | refine aL ti_ok ?_ | refine dL ti_ok ?_ | refine dG ?_ | ((first | refine cC ?_ ?_ | refine gS ?_ ?_ | refine dS ?_ ?_) <;> intro hc <;> first | (exfalso; simp only [dcA] at hc; omega) | (simp only [hc]; try simp only [dcA] at hc)) | refine aO ?_ | refine dO ?_)
  all_goals exact fin_same trivial rfl
def p34F (kp ki lo hi s e : Int) : Prop := s = clip s (lo * 4096) (hi * 4096) ∧ s + ki * e = clip (s + ki * e) (lo * 4096) (hi * 4096) ∧ s + ki * e + kp * e = clip (s + ki * e + kp * e) (lo * 4096) (hi * 4096) ∧ -16777216 ≤ e ∧ e ≤ 16777216
theorem ref34_Free (kp ki lo hi s e : Int) (h : ¬ piBad kp ki lo hi) (hs : -1099511627776 ≤ s ∧ s ≤ 1099511627776) (he : -4294967296 ≤ e ∧ e ≤ 4294967296) (hp : p34F kp ki lo hi s e) : CallOK Tryz.prog gl 108 [.agg [.v (.int .i64 kp), .v (.int .i64 ki), .v (.int .i64 lo), .v (.int .i64 hi)], .agg [.v (.int .i64 s)], .v (.int .i64 e)] (.v (.bool (true))) := by
  refine call_ok (C := ⟨Tryz.prog, gl, ti, 51, false⟩) ti_ok mixed 3000 Tryz.call108 Tryz.func108 rfl Tryz.ntmps108 (by simp) byClL byCl ?_
  rw [Tryz.results108]
  have h' := h
  unfold piBad at h'
  have b3 := mul_bd (a := ki) (b := e) (A := 1048576) (B := 4294967296) (by omega) (by omega)
  have b4 := mul_bd (a := kp) (b := e) (A := 1048576) (B := 4294967296) (by omega) (by omega)
  have c1 := ref34_sum kp ki lo hi s h
  have c2 := ref34_sum kp ki lo hi (s + ki * e) h
  have c3 := ref34_sum kp ki lo hi (s + ki * e + kp * e) h
  unfold p34F at hp
  generalize clip s (lo * 4096) (hi * 4096) = x1 at *
  generalize clip (s + ki * e) (lo * 4096) (hi * 4096) = x2 at *
  generalize clip (s + ki * e + kp * e) (lo * 4096) (hi * 4096) = x3 at *
  repeat' (first | (simp only [go_sem, seval, IntKind.bits.eq_def, ti, tin]) | (simp (disch := omega) only [wA]) | (with_reducible first | refine cF c1 ?_ | refine dF c1 ?_ | refine cF c2 ?_ | refine dF c2 ?_ | refine cF c3 ?_ | refine dF c3 ?_) | refine aL ti_ok ?_ | refine dL ti_ok ?_ | refine dG ?_ | ((first | refine cC ?_ ?_ | refine gS ?_ ?_ | refine dS ?_ ?_) <;> intro hc <;> first | (exfalso; simp only [dcA] at hc; omega) | (simp only [hc]; try simp only [dcA] at hc)) | refine aO ?_ | refine dO ?_)
  all_goals first | exact fin_same trivial rfl | exact fin_same trivial (by simp only [one]; congr 2; simp; omega)
theorem ref34_Free_no (kp ki lo hi s e : Int) (h : ¬ piBad kp ki lo hi) (hs : -1099511627776 ≤ s ∧ s ≤ 1099511627776) (he : -4294967296 ≤ e ∧ e ≤ 4294967296) (hp : ¬ p34F kp ki lo hi s e) : CallOK Tryz.prog gl 108 [.agg [.v (.int .i64 kp), .v (.int .i64 ki), .v (.int .i64 lo), .v (.int .i64 hi)], .agg [.v (.int .i64 s)], .v (.int .i64 e)] (.v (.bool (false))) := by
  refine call_ok (C := ⟨Tryz.prog, gl, ti, 51, false⟩) ti_ok mixed 3000 Tryz.call108 Tryz.func108 rfl Tryz.ntmps108 (by simp) byClL byCl ?_
  rw [Tryz.results108]
  have h' := h
  unfold piBad at h'
  have b3 := mul_bd (a := ki) (b := e) (A := 1048576) (B := 4294967296) (by omega) (by omega)
  have b4 := mul_bd (a := kp) (b := e) (A := 1048576) (B := 4294967296) (by omega) (by omega)
  have c1 := ref34_sum kp ki lo hi s h
  have c2 := ref34_sum kp ki lo hi (s + ki * e) h
  have c3 := ref34_sum kp ki lo hi (s + ki * e + kp * e) h
  unfold p34F at hp
  generalize clip s (lo * 4096) (hi * 4096) = x1 at *
  generalize clip (s + ki * e) (lo * 4096) (hi * 4096) = x2 at *
  generalize clip (s + ki * e + kp * e) (lo * 4096) (hi * 4096) = x3 at *
  repeat' (first | (simp only [go_sem, seval, IntKind.bits.eq_def, ti, tin]) | (simp (disch := omega) only [wA]) | (with_reducible first | refine cF c1 ?_ | refine dF c1 ?_ | refine cF c2 ?_ | refine dF c2 ?_ | refine cF c3 ?_ | refine dF c3 ?_) | refine aL ti_ok ?_ | refine dL ti_ok ?_ | refine dG ?_ | ((first | refine cC ?_ ?_ | refine gS ?_ ?_ | refine dS ?_ ?_) <;> intro hc <;> first | (exfalso; simp only [dcA] at hc; omega) | (simp only [hc]; try simp only [dcA] at hc)) | refine aO ?_ | refine dO ?_)
  all_goals first | exact fin_same trivial rfl | exact fin_same trivial (by simp only [one]; congr 2; simp; omega)
def svw (kv rp rv p : Int) : Int := rv + kv * clip (svD rp p) (-562949953421312) 562949953421312 / 4096
def f38a (kv rp rv p v : Int) : Prop := (-562949953421312 ≤ svD rp p ∧ svD rp p ≤ 562949953421312) ∧ svw kv rp rv p = sp (svw kv rp rv p) ∧ rv = sp rv ∧ v = sp v
def f38 (kv sh kp ki lo hi s rp rv p v l : Int) : Prop := f38a kv rp rv p v ∧ svT kv sh kp ki lo hi s rp rv p v l = piO kp ki lo hi s (svE kv sh rp rv p v) ∧ p34F kp ki lo hi s (svE kv sh rp rv p v)
theorem ediv_sml {a m B : Int} (hm : 1 ≤ m) (ha : -B ≤ a ∧ a ≤ B) (hB : 0 ≤ B) : -B ≤ a / m ∧ a / m ≤ B := by
  have h1 : B * 1 ≤ B * m := Int.mul_le_mul_of_nonneg_left hm hB
  exact ⟨Int.le_ediv_of_mul_le (by omega) (by rw [Int.neg_mul]; omega), Int.ediv_le_of_le_mul (by omega) (by omega)⟩
theorem svE_bd {kv sh rp rv p v : Int} (hs : 0 ≤ sh ∧ sh ≤ 30) : -4294967296 ≤ svE kv sh rp rv p v ∧ svE kv sh rp rv p v ≤ 4294967296 := by
  have b1 := svW_bd kv rp rv p
  have b2 := sp_bd v
  have b3 := pow_bd (n := sh.toNat) (m := 30) (by omega)
  exact ediv_sml b3.1 (by omega) (by decide)
theorem ref38_Free_no1 (kv sh kp ki lo hi s rp rv p v l : Int) (h : ¬ svBad kv sh kp ki lo hi) (hr : -1152921504606846976 ≤ rv ∧ rv ≤ 1152921504606846976) (hf : ¬ f38a kv rp rv p v) : CallOK Tryz.prog gl 40 [.agg [.v (.int .i64 kv), .v (.int .i64 sh), .v (.int .i64 kp), .v (.int .i64 ki), .v (.int .i64 lo), .v (.int .i64 hi)], .agg [.v (.int .i64 s)], .agg [.v (.int .i64 rp), .v (.int .i64 rv), .v (.int .i64 p), .v (.int .i64 v), .v (.int .i64 l)]] (.v (.bool (false))) := by
  refine call_ok (C := ⟨Tryz.prog, gl, ti, 84, false⟩) ti_ok mixed 3000 Tryz.call40 Tryz.func40 rfl Tryz.ntmps40 (by simp) byClL byCl ?_
  rw [Tryz.results40]
  have h' := h
  unfold svBad at h'
  have b0 := svD_bd rp p
  have b4 := clip_bd (lo := -562949953421312) (hi := 562949953421312) (by omega) (svD rp p)
  have b5 := mul_bd (a := kv) (A := 4096) (by omega) b4
  have c1 := ref38_far rp rv p v l
  have c2 := base_Clip (svD rp p) (-562949953421312) 562949953421312
  have c3 := base_Div (kv * clip (svD rp p) (-562949953421312) 562949953421312) 4096 (by omega) (by omega)
  have c4 := base_Abs (svD rp p) (by omega)
  have c5 := ref38_speed (svw kv rp rv p)
  have c6 := ref38_speed rv
  have c7 := ref38_speed v
  unfold f38a at hf
  unfold svw at *
  generalize svD rp p = d at *
  generalize clip d (-562949953421312) 562949953421312 = cd at *
  have b6 : -562949953421312 ≤ kv * cd / 4096 ∧ kv * cd / 4096 ≤ 562949953421312 := by omega
  clear h h'
  generalize sp (rv + kv * cd / 4096) = w1 at *
  generalize sp rv = w2 at *
  generalize sp v = w3 at *
  repeat' (first | (simp only [go_sem, seval, IntKind.bits.eq_def, ti, tin]) | (simp (disch := omega) only [wA]) | (with_reducible first | refine cF c1 ?_ | refine dF c1 ?_ | refine cF c2 ?_ | refine dF c2 ?_ | refine cF c3 ?_ | refine dF c3 ?_ | refine cF c4 ?_ | refine dF c4 ?_ | refine cF c5 ?_ | refine dF c5 ?_ | refine cF c6 ?_ | refine dF c6 ?_ | refine cF c7 ?_ | refine dF c7 ?_) | refine aL ti_ok ?_ | refine dL ti_ok ?_ | refine dG ?_ | ((first | refine cC ?_ ?_ | refine gS ?_ ?_ | refine dS ?_ ?_) <;> intro hc <;> first | (exfalso; simp only [dcA] at hc; omega) | (simp only [hc]; try simp only [dcA] at hc)) | refine aO ?_ | refine dO ?_)
  all_goals exact fin_same trivial rfl
theorem ref38_Free (kv sh kp ki lo hi s rp rv p v l : Int) (h : ¬ svBad kv sh kp ki lo hi) (hr : -1152921504606846976 ≤ rv ∧ rv ≤ 1152921504606846976) (hs : -1099511627776 ≤ s ∧ s ≤ 1099511627776) (hf : f38a kv rp rv p v) (r : Bool) (hg : svT kv sh kp ki lo hi s rp rv p v l = piO kp ki lo hi s (svE kv sh rp rv p v) ∧ p34F kp ki lo hi s (svE kv sh rp rv p v) ↔ r = true) : CallOK Tryz.prog gl 40 [.agg [.v (.int .i64 kv), .v (.int .i64 sh), .v (.int .i64 kp), .v (.int .i64 ki), .v (.int .i64 lo), .v (.int .i64 hi)], .agg [.v (.int .i64 s)], .agg [.v (.int .i64 rp), .v (.int .i64 rv), .v (.int .i64 p), .v (.int .i64 v), .v (.int .i64 l)]] (.v (.bool (r))) := by
  refine call_ok (C := ⟨Tryz.prog, gl, ti, 84, false⟩) ti_ok mixed 3000 Tryz.call40 Tryz.func40 rfl Tryz.ntmps40 (by simp) byClL byCl ?_
  rw [Tryz.results40]
  have h' := h
  unfold svBad at h'
  have h2 : ¬ piBad kp ki lo hi := fun q => h (.inl q)
  have b0 := svD_bd rp p
  have b4 := clip_bd (lo := -562949953421312) (hi := 562949953421312) (by omega) (svD rp p)
  have b5 := mul_bd (a := kv) (A := 4096) (by omega) b4
  have c1 := ref38_far rp rv p v l
  have c2 := base_Clip (svD rp p) (-562949953421312) 562949953421312
  have c3 := base_Div (kv * clip (svD rp p) (-562949953421312) 562949953421312) 4096 (by omega) (by omega)
  have c4 := base_Abs (svD rp p) (by omega)
  have c5 := ref38_speed (svw kv rp rv p)
  have c6 := ref38_speed rv
  have c7 := ref38_speed v
  have c8 := ref38_Step kv sh kp ki lo hi s rp rv p v l h
  have c9 := ref38_Error kv sh kp ki lo hi rp rv p v l h
  have cA := ref34_Step kp ki lo hi s (svE kv sh rp rv p v) h2
  have cB : ∃ q : Bool, (p34F kp ki lo hi s (svE kv sh rp rv p v) ↔ q = true) ∧ CallOK Tryz.prog gl 108 [.agg [.v (.int .i64 kp), .v (.int .i64 ki), .v (.int .i64 lo), .v (.int .i64 hi)], .agg [.v (.int .i64 s)], .v (.int .i64 (svE kv sh rp rv p v))] (.v (.bool q)) := by
    have be := svE_bd (kv := kv) (sh := sh) (rp := rp) (rv := rv) (p := p) (v := v) (by omega)
    by_cases hp : p34F kp ki lo hi s (svE kv sh rp rv p v)
    · exact ⟨true, by simp [hp], ref34_Free _ _ _ _ _ _ h2 hs be hp⟩
    · exact ⟨false, by simp [hp], ref34_Free_no _ _ _ _ _ _ h2 hs be hp⟩
  obtain ⟨q, hq, cB⟩ := cB
  unfold f38a at hf
  unfold svw at *
  generalize svD rp p = d at *
  generalize clip d (-562949953421312) 562949953421312 = cd at *
  have b6 : -562949953421312 ≤ kv * cd / 4096 ∧ kv * cd / 4096 ≤ 562949953421312 := by omega
  clear h h' h2 hs
  generalize sp (rv + kv * cd / 4096) = w1 at *
  generalize sp rv = w2 at *
  generalize sp v = w3 at *
  rw [hq] at hg
  clear hq
  generalize svE kv sh rp rv p v = e at *
  generalize svT kv sh kp ki lo hi s rp rv p v l = T at *
  generalize svS kv sh kp ki lo hi s rp rv p v l = S at *
  generalize piO kp ki lo hi s e = O at *
  generalize piS kp ki lo hi s e = S' at *
  by_cases hT : T = O
  ·
    obtain rfl : r = q := by simp only [hT, true_and] at hg; cases r <;> cases q <;> simp_all
    clear hg
    repeat' (first | (simp only [go_sem, seval, IntKind.bits.eq_def, ti, tin]) | (simp (disch := omega) only [wA]) | (with_reducible first | refine cF c1 ?_ | refine dF c1 ?_ | refine cF c2 ?_ | refine dF c2 ?_ | refine cF c3 ?_ | refine dF c3 ?_ | refine cF c4 ?_ | refine dF c4 ?_ | refine cF c5 ?_ | refine dF c5 ?_ | refine cF c6 ?_ | refine dF c6 ?_ | refine cF c7 ?_ | refine dF c7 ?_ | refine cF c8 ?_ | refine dF c8 ?_ | refine cF c9 ?_ | refine dF c9 ?_ | refine cF cA ?_ | refine dF cA ?_ | refine cF cB ?_ | refine dF cB ?_) | refine aL ti_ok ?_ | refine dL ti_ok ?_ | refine dG ?_ | ((first | refine cC ?_ ?_ | refine gS ?_ ?_ | refine dS ?_ ?_) <;> intro hc <;> first | (exfalso; simp only [dcA] at hc; omega) | (simp only [hc]; try simp only [dcA] at hc)) | refine aO ?_ | refine dO ?_)
    all_goals exact fin_same trivial rfl
  ·
    obtain rfl : r = false := by simp only [hT, false_and, false_iff] at hg; simpa using hg
    clear hg
    repeat' (first | (simp only [go_sem, seval, IntKind.bits.eq_def, ti, tin]) | (simp (disch := omega) only [wA]) | (with_reducible first | refine cF c1 ?_ | refine dF c1 ?_ | refine cF c2 ?_ | refine dF c2 ?_ | refine cF c3 ?_ | refine dF c3 ?_ | refine cF c4 ?_ | refine dF c4 ?_ | refine cF c5 ?_ | refine dF c5 ?_ | refine cF c6 ?_ | refine dF c6 ?_ | refine cF c7 ?_ | refine dF c7 ?_ | refine cF c8 ?_ | refine dF c8 ?_ | refine cF c9 ?_ | refine dF c9 ?_ | refine cF cA ?_ | refine dF cA ?_ | refine cF cB ?_ | refine dF cB ?_) | refine aL ti_ok ?_ | refine dL ti_ok ?_ | refine dG ?_ | ((first | refine cC ?_ ?_ | refine gS ?_ ?_ | refine dS ?_ ?_) <;> intro hc <;> first | (exfalso; simp only [dcA] at hc; omega) | (simp only [hc]; try simp only [dcA] at hc)) | refine aO ?_ | refine dO ?_)
    all_goals exact fin_same trivial rfl
theorem free_tick {kv sh kp ki lo hi s rp rv p v : Int} (h : ¬ svBad kv sh kp ki lo hi) (hrp : -1099511627776 ≤ rp ∧ rp ≤ 1099511627776) (hp : -1152921504606846976 ≤ p ∧ p ≤ 1152921504606846976) (F : f38 kv sh kp ki lo hi s rp rv p v 16777216) :
    svS kv sh kp ki lo hi s rp rv p v 16777216 = s + ki * ((kv * (-(p - rp)) / 4096 - (v - rv)) / 2 ^ sh.toNat) ∧ svT kv sh kp ki lo hi s rp rv p v 16777216 = (s + ki * ((kv * (-(p - rp)) / 4096 - (v - rv)) / 2 ^ sh.toNat) + kp * ((kv * (-(p - rp)) / 4096 - (v - rv)) / 2 ^ sh.toNat)) / 4096
      ∧ (-16777216 ≤ svT kv sh kp ki lo hi s rp rv p v 16777216 ∧ svT kv sh kp ki lo hi s rp rv p v 16777216 ≤ 16777216) ∧ (-68719476736 ≤ svS kv sh kp ki lo hi s rp rv p v 16777216 ∧ svS kv sh kp ki lo hi s rp rv p v 16777216 ≤ 68719476736) ∧ (-2199023255552 ≤ p ∧ p ≤ 2199023255552 ∨ -1125899906842624 ≤ p ∧ p ≤ 1125899906842624) ∧ (-1073741824 ≤ v ∧ v ≤ 1073741824) := by
  have h2 : ¬ piBad kp ki lo hi := fun q => h (.inl q)
  unfold svBad at h
  unfold piBad at h2
  obtain ⟨⟨F1, F2, F3, F4⟩, F5, G1, G2, G3, G4, G5⟩ := F
  have eD : svD rp p = -(p - rp) := by
    unfold svD
    rw [clip_id (by omega), clip_id (by omega)]; omega
  have eC : clip (svD rp p) (-562949953421312) 562949953421312 = -(p - rp) := by rw [clip_id (by omega), eD]
  have eW : svW kv rp rv p = rv + kv * (-(p - rp)) / 4096 := by
    have : svW kv rp rv p = sp (svw kv rp rv p) := by unfold svW svw; rw [← F3]
    rw [this, ← F2]; unfold svw; rw [eC]
  have eE : svE kv sh rp rv p v = (kv * (-(p - rp)) / 4096 - (v - rv)) / 2 ^ sh.toNat := by
    unfold svE
    rw [eW, ← F4]
    congr 1; omega
  rw [eE] at F5 G2 G3 G4 G5
  have b1 := sp_bd v
  have b2 := clip_bd (lo := lo * 4096) (hi := hi * 4096) (by omega) (s + ki * ((kv * (-(p - rp)) / 4096 - (v - rv)) / 2 ^ sh.toNat))
  have b3 := clip_bd (lo := lo * 4096) (hi := hi * 4096) (by omega) (s + ki * ((kv * (-(p - rp)) / 4096 - (v - rv)) / 2 ^ sh.toNat) + kp * ((kv * (-(p - rp)) / 4096 - (v - rv)) / 2 ^ sh.toNat))
  rw [← G2] at b2
  rw [← G3] at b3
  have b4 := clip_bd (lo := -svM 16777216) (hi := svM 16777216) (by decide) (piO kp ki lo hi s (svE kv sh rp rv p v))
  have m0 : svM 16777216 = 16777216 := by decide
  rw [eE, m0] at b4
  have eT : svT kv sh kp ki lo hi s rp rv p v 16777216 = clip (piO kp ki lo hi s ((kv * (-(p - rp)) / 4096 - (v - rv)) / 2 ^ sh.toNat)) (-16777216) 16777216 := by unfold svT; rw [eE, m0]
  rw [eT] at F5 ⊢
  have eS : svS kv sh kp ki lo hi s rp rv p v 16777216 = piS kp ki lo hi s ((kv * (-(p - rp)) / 4096 - (v - rv)) / 2 ^ sh.toNat) := by
    rw [← eE]
    refine svS_neg ?_
    rw [eE, m0]; omega
  rw [eS, F5]
  rw [F5] at b4
  have pU : piU kp ki lo hi s ((kv * (-(p - rp)) / 4096 - (v - rv)) / 2 ^ sh.toNat) = s + ki * ((kv * (-(p - rp)) / 4096 - (v - rv)) / 2 ^ sh.toNat) + kp * ((kv * (-(p - rp)) / 4096 - (v - rv)) / 2 ^ sh.toNat) := by
    unfold piU; rw [← G1, clip_id ⟨G4, G5⟩]
  have pO : piO kp ki lo hi s ((kv * (-(p - rp)) / 4096 - (v - rv)) / 2 ^ sh.toNat) = (s + ki * ((kv * (-(p - rp)) / 4096 - (v - rv)) / 2 ^ sh.toNat) + kp * ((kv * (-(p - rp)) / 4096 - (v - rv)) / 2 ^ sh.toNat)) / 4096 := by
    unfold piO; rw [pU, clip_id (by omega)]
  have pS : piS kp ki lo hi s ((kv * (-(p - rp)) / 4096 - (v - rv)) / 2 ^ sh.toNat) = s + ki * ((kv * (-(p - rp)) / 4096 - (v - rv)) / 2 ^ sh.toNat) := by
    have : piV kp ki lo hi s ((kv * (-(p - rp)) / 4096 - (v - rv)) / 2 ^ sh.toNat) = s + ki * ((kv * (-(p - rp)) / 4096 - (v - rv)) / 2 ^ sh.toNat) := by
      unfold piV; rw [pU, if_neg (by omega), ← G1, clip_id ⟨G4, G5⟩]
    unfold piS; rw [this, ← G2]
  rw [pO] at b4
  rw [pO, pS]
  generalize (kv * (-(p - rp)) / 4096 - (v - rv)) / 2 ^ sh.toNat = e at *
  refine ⟨rfl, rfl, b4, by omega, .inr (by omega), by omega⟩
def halves (n : Int) : List AV := [.v (.int .i16 n)]
def isHalf (n : Int) : Prop := -32768 ≤ n ∧ n ≤ 32767
theorem clrow_h : ClRow halves := fun x a ha => by
  simp only [halves, List.mem_cons, List.not_mem_nil, or_false] at ha
  subst ha; exact Cl.v _
theorem fit_halves {rows : List (List AV)} (h : ∀ r ∈ rows, FitL [.int .i16] r) : ∃ l : List Int, (∀ n ∈ l, isHalf n) ∧ rows = rws halves l ∧ rows.length = l.length := by
  induction rows with
  | nil => exact ⟨[], fun r hr => by simp at hr, rfl, rfl⟩
  | cons r l ih =>
    obtain ⟨m, h1, h2, h3⟩ := ih (fun r' h' => h r' (List.mem_cons_of_mem _ h'))
    obtain ⟨a, l1, rfl, ha, q1⟩ := (h r (List.mem_cons_self ..)).int
    obtain rfl := q1.nil
    refine ⟨a :: m, fun p hp => ?_, by rw [h2]; rfl, by simp [h3]⟩
    rcases List.mem_cons.1 hp with rfl | hp
    · have : -32768 ≤ p ∧ p ≤ 32767 := by simpa [Lit.wf, IntKind.min, IntKind.max, IntKind.signed, IntKind.bits] using ha
      exact this
    · exact h1 p hp
def at38 (l : List Int) (i : Nat) : Int := l.getD i 0
theorem law38_at (l : List Int) (i : Nat) (hcs : ∀ r ∈ rws halves l, ∀ a ∈ r, Cl a) (hl : l.length ≤ 9223372036854775807) (hi : i ≤ 1000) (hb : ∀ n ∈ l, isHalf n) : CallOK Tryz.prog gl 42 [.sl 1 (rws halves l), .v (.int .i64 i)] (.v (.int .i64 ((at38 l i)))) := by
  refine call_ok (C := ⟨Tryz.prog, gl, ti, 14, false⟩) ti_ok mixed 3000 Tryz.call42 Tryz.func42 rfl Tryz.ntmps42 (by simp) byClL byCl ?_
  rw [Tryz.results42]
  unfold at38
  obtain ⟨n, hn⟩ : ∃ n, l.length = n := ⟨_, rfl⟩
  rw [hn] at hl
  by_cases h : i < n
  ·
    have ri : (rws halves l).getD i [] = [.v (.int .i16 (l.getD i 0))] := rws_getD (f := halves) (l := l) (i := i) 0 (by omega)
    have hbi : isHalf (l.getD i 0) := hb _ (getD_mem (d := 0) (by omega))
    unfold isHalf at hbi
    generalize l.getD i 0 = b at *
    clear hb
    repeat' (first | (simp only [go_sem, seval, IntKind.bits.eq_def, ti, tin, rws_length, hn, ri]) | (simp (disch := omega) only [wA]) | refine aL ti_ok ?_ | refine dL ti_ok ?_ | refine dG ?_ | ((first | refine cC ?_ ?_ | refine gS ?_ ?_ | refine dS ?_ ?_) <;> intro hc <;> first | (exfalso; simp only [dcA] at hc; omega) | (simp only [hc]; try simp only [dcA] at hc)) | refine aO ?_ | refine dO ?_)
    all_goals exact fin_same trivial rfl
  ·
    have e : l.getD i 0 = 0 := by rw [List.getD, List.getElem?_eq_none (by omega)]; rfl
    rw [e]
    clear hb
    repeat' (first | (simp only [go_sem, seval, IntKind.bits.eq_def, ti, tin, rws_length, hn]) | (simp (disch := omega) only [wA]) | refine aL ti_ok ?_ | refine dL ti_ok ?_ | refine dG ?_ | ((first | refine cC ?_ ?_ | refine gS ?_ ?_ | refine dS ?_ ?_) <;> intro hc <;> first | (exfalso; simp only [dcA] at hc; omega) | (simp only [hc]; try simp only [dcA] at hc)) | refine aO ?_ | refine dO ?_)
    all_goals exact fin_same trivial rfl
def in38 (p v s : Int) (t : Dy) : Prop := (Dy.int p).abs.cmp t ≤ 0 ∧ (Dy.int v).abs.cmp t ≤ 0 ∧ (nrm s 12).abs.cmp t ≤ 0
theorem in38_q {p v s : Int} {t : Dy} : in38 p v s t ↔ absQ (p : Rat) ≤ t.v ∧ absQ (v : Rat) ≤ t.v ∧ absQ ((s : Rat) / 4096) ≤ t.v := by
  unfold in38
  have e : (nrm s 12).v = (s : Rat) / 4096 := by
    have h := v_nrm_mul (z := s) (d := 12) (by omega)
    have p12 : (2 : Rat) ^ 12 = 4096 := by decide +kernel
    rw [p12] at h
    rw [← h]; grind
  rw [cmp_le, cmp_le, cmp_le, v_abs, v_abs, v_abs, Dy.v_int, Dy.v_int, e]
theorem law38_inside (p v s : Int) (t : Dy) (hp : -4611686018427387904 ≤ p ∧ p ≤ 4611686018427387904) (hv : -4611686018427387904 ≤ v ∧ v ≤ 4611686018427387904) (hs : -4611686018427387904 ≤ s ∧ s ≤ 4611686018427387904) (gt : Mg 200000 t) (r : Bool) (hr : in38 p v s t ↔ r = true) : CallOK Tryz.prog gl 39 [.v (.int .i64 p), .v (.int .i64 v), .agg [.v (.int .i64 s)], .sl 3 (vrows (List.replicate 3 (can t)))] (.v (.bool (r))) := by
  refine call_ok (C := ⟨Tryz.prog, gl, ti, 50, false⟩) ti_ok mixed 3000 Tryz.call39 Tryz.func39 rfl Tryz.ntmps39 (by simp) byClL byCl ?_
  rw [Tryz.results39]
  have m1 := ref_Make s 12 (by omega) (by omega)
  have o1 := ref_Of p (by omega)
  have o2 := ref_Of v (by omega)
  have g1 : Mg 64 (Dy.int p) := Mg.int (by omega)
  have g2 : Mg 64 (Dy.int v) := Mg.int (by omega)
  have g3 : Mg 64 (nrm s 12) := mg_make (by omega)
  have a1 := ref_Abs _ _ _ _ (g1.arg)
  have a2 := ref_Abs _ _ _ _ (g2.arg)
  have a3 := ref_Abs _ _ _ _ (g3.arg)
  have q1 := ref_Cmp _ _ _ _ _ _ _ _ ((Mg.abs g1).arg) (gt.arg)
  have q2 := ref_Cmp _ _ _ _ _ _ _ _ ((Mg.abs g2).arg) (gt.arg)
  have q3 := ref_Cmp _ _ _ _ _ _ _ _ ((Mg.abs g3).arg) (gt.arg)
  have rT : vrows (List.replicate 3 (can t)) = [crow t, crow t, crow t] := rfl
  rw [rT]
  unfold in38 at hr
  clear g1 g2 g3 gt hp hv hs
  generalize (Dy.int p).abs.cmp t = x1 at *
  generalize (Dy.int v).abs.cmp t = x2 at *
  generalize (nrm s 12).abs.cmp t = x3 at *
  generalize (Dy.int p).abs = y1 at *
  generalize (Dy.int v).abs = y2 at *
  generalize (nrm s 12).abs = y3 at *
  generalize Dy.int p = z1 at *
  generalize Dy.int v = z2 at *
  generalize nrm s 12 = z3 at *
  by_cases h1 : x1 ≤ 0
  rotate_left
  ·
    obtain rfl : r = false := by simpa [h1] using hr
    clear hr
    repeat' (first | (simp only [go_sem, seval, IntKind.bits.eq_def, ti, tin]) | (simp (disch := omega) only [wA]) | (with_reducible first | refine cF m1 ?_ | refine dF m1 ?_ | refine cF o1 ?_ | refine dF o1 ?_ | refine cF o2 ?_ | refine dF o2 ?_ | refine cF a1 ?_ | refine dF a1 ?_ | refine cF a2 ?_ | refine dF a2 ?_ | refine cF a3 ?_ | refine dF a3 ?_ | refine cF q1 ?_ | refine dF q1 ?_ | refine cF q2 ?_ | refine dF q2 ?_ | refine cF q3 ?_ | refine dF q3 ?_) | refine aL ti_ok ?_ | refine dL ti_ok ?_ | refine dG ?_ | ((first | refine cC ?_ ?_ | refine gS ?_ ?_ | refine dS ?_ ?_) <;> intro hc <;> first | (exfalso; simp only [dcA] at hc; omega) | (simp only [hc]; try simp only [dcA] at hc)) | refine aO ?_ | refine dO ?_)
    all_goals first | exact fin_same trivial rfl | exact fin_same trivial (by simp only [one]; congr 2; simp; omega)
  by_cases h2 : x2 ≤ 0
  rotate_left
  ·
    obtain rfl : r = false := by simpa [h2] using hr
    clear hr
    repeat' (first | (simp only [go_sem, seval, IntKind.bits.eq_def, ti, tin]) | (simp (disch := omega) only [wA]) | (with_reducible first | refine cF m1 ?_ | refine dF m1 ?_ | refine cF o1 ?_ | refine dF o1 ?_ | refine cF o2 ?_ | refine dF o2 ?_ | refine cF a1 ?_ | refine dF a1 ?_ | refine cF a2 ?_ | refine dF a2 ?_ | refine cF a3 ?_ | refine dF a3 ?_ | refine cF q1 ?_ | refine dF q1 ?_ | refine cF q2 ?_ | refine dF q2 ?_ | refine cF q3 ?_ | refine dF q3 ?_) | refine aL ti_ok ?_ | refine dL ti_ok ?_ | refine dG ?_ | ((first | refine cC ?_ ?_ | refine gS ?_ ?_ | refine dS ?_ ?_) <;> intro hc <;> first | (exfalso; simp only [dcA] at hc; omega) | (simp only [hc]; try simp only [dcA] at hc)) | refine aO ?_ | refine dO ?_)
    all_goals first | exact fin_same trivial rfl | exact fin_same trivial (by simp only [one]; congr 2; simp; omega)
  by_cases h3 : x3 ≤ 0
  rotate_left
  ·
    obtain rfl : r = false := by simpa [h3] using hr
    clear hr
    repeat' (first | (simp only [go_sem, seval, IntKind.bits.eq_def, ti, tin]) | (simp (disch := omega) only [wA]) | (with_reducible first | refine cF m1 ?_ | refine dF m1 ?_ | refine cF o1 ?_ | refine dF o1 ?_ | refine cF o2 ?_ | refine dF o2 ?_ | refine cF a1 ?_ | refine dF a1 ?_ | refine cF a2 ?_ | refine dF a2 ?_ | refine cF a3 ?_ | refine dF a3 ?_ | refine cF q1 ?_ | refine dF q1 ?_ | refine cF q2 ?_ | refine dF q2 ?_ | refine cF q3 ?_ | refine dF q3 ?_) | refine aL ti_ok ?_ | refine dL ti_ok ?_ | refine dG ?_ | ((first | refine cC ?_ ?_ | refine gS ?_ ?_ | refine dS ?_ ?_) <;> intro hc <;> first | (exfalso; simp only [dcA] at hc; omega) | (simp only [hc]; try simp only [dcA] at hc)) | refine aO ?_ | refine dO ?_)
    all_goals first | exact fin_same trivial rfl | exact fin_same trivial (by simp only [one]; congr 2; simp; omega)
  ·
    obtain rfl : r = true := by simpa [h1, h2, h3] using hr
    clear hr
    repeat' (first | (simp only [go_sem, seval, IntKind.bits.eq_def, ti, tin]) | (simp (disch := omega) only [wA]) | (with_reducible first | refine cF m1 ?_ | refine dF m1 ?_ | refine cF o1 ?_ | refine dF o1 ?_ | refine cF o2 ?_ | refine dF o2 ?_ | refine cF a1 ?_ | refine dF a1 ?_ | refine cF a2 ?_ | refine dF a2 ?_ | refine cF a3 ?_ | refine dF a3 ?_ | refine cF q1 ?_ | refine dF q1 ?_ | refine cF q2 ?_ | refine dF q2 ?_ | refine cF q3 ?_ | refine dF q3 ?_) | refine aL ti_ok ?_ | refine dL ti_ok ?_ | refine dG ?_ | ((first | refine cC ?_ ?_ | refine gS ?_ ?_ | refine dS ?_ ?_) <;> intro hc <;> first | (exfalso; simp only [dcA] at hc; omega) | (simp only [hc]; try simp only [dcA] at hc)) | refine aO ?_ | refine dO ?_)
    all_goals first | exact fin_same trivial rfl | exact fin_same trivial (by simp only [one]; congr 2; simp; omega)
end Go.Proofs.YtpggiabnhodjpaaGreatDoor
set_option linter.unusedSimpArgs false
set_option linter.unusedVariables false
set_option linter.deprecated false
namespace Go.Proofs.YtpggiabnhodjpaaGreatDoor
open Go Go.Ax
set_option maxRecDepth 100000
set_option maxHeartbeats 8000000
theorem tdiv_sml {a B : Int} (h : -B ≤ a ∧ a ≤ B) : -B ≤ a.tdiv 65536 ∧ a.tdiv 65536 ≤ B := by
  by_cases h0 : 0 ≤ a
  · rw [Int.tdiv_eq_ediv_of_nonneg h0]; omega
  · have e : a.tdiv 65536 = -((-a) / 65536) := by
      have := Int.tdiv_eq_ediv_of_nonneg (a := -a) (b := 65536) (by omega)
      rw [Int.neg_tdiv] at this; omega
    rw [e]; omega
theorem free38 (kv sh kp ki lo hi s rp rv p v l : Int) (h : ¬ svBad kv sh kp ki lo hi) (hr : -1152921504606846976 ≤ rv ∧ rv ≤ 1152921504606846976) (hs : -1099511627776 ≤ s ∧ s ≤ 1099511627776) (r : Bool) (hf : f38 kv sh kp ki lo hi s rp rv p v l ↔ r = true) :
    CallOK Tryz.prog gl 40 [.agg [.v (.int .i64 kv), .v (.int .i64 sh), .v (.int .i64 kp), .v (.int .i64 ki), .v (.int .i64 lo), .v (.int .i64 hi)], .agg [.v (.int .i64 s)], .agg [.v (.int .i64 rp), .v (.int .i64 rv), .v (.int .i64 p), .v (.int .i64 v), .v (.int .i64 l)]] (.v (.bool r)) := by
  unfold f38 at hf
  by_cases ha : f38a kv rp rv p v
  · exact ref38_Free kv sh kp ki lo hi s rp rv p v l h hr hs ha r (by rw [← hf]; exact ⟨fun q => ⟨ha, q⟩, fun q => q.2⟩)
  · obtain rfl : r = false := by cases r with
      | false => rfl
      | true => exact absurd (hf.2 rfl).1 ha
    exact ref38_Free_no1 kv sh kp ki lo hi s rp rv p v l h hr ha
structure SvInv (K : Nat) (AQ DQ : Nat → Nat → Rat) (WQ : Nat → Rat) (t u : Dy) (vel : Int) (n : Nat) (ref p v s : Int) : Prop where
  hr : -(1048576 * (n : Int)) ≤ ref ∧ ref ≤ 1048576 * (n : Int)
  hp : -4503599627370496 ≤ p ∧ p ≤ 4503599627370496
  hv : -140737488355328 ≤ v ∧ v ≤ 140737488355328
  hs : -1099511627776 ≤ s ∧ s ≤ 1099511627776
  q : QInv 3 K AQ DQ WQ (vQ (boxD 3 t)) (vQ (boxD 3 u)) n (st3 ((p - ref : Int) : Rat) ((v - vel : Int) : Rat) ((s : Rat) / 4096))
section
variable {K n : Nat} {AQ DQ : Nat → Nat → Rat} {WQ : Nat → Rat} {t u : Dy} {vel ref p v s : Int}
theorem SvInv.high (h1 : 1 ≤ K) (acc : QAcc 3 K AQ DQ WQ (vQ (boxD 3 t)) (vQ (boxD 3 u))) (H : SvInv K AQ DQ WQ t u vel n ref p v s) : in38 (p - ref) (v - vel) s u := by
  have q0 := H.q.high h1 acc (i := 0) (by omega)
  have q1 := H.q.high h1 acc (i := 1) (by omega)
  have q2 := H.q.high h1 acc (i := 2) (by omega)
  rw [vQ_box (by omega)] at q0 q1 q2
  exact in38_q.2 ⟨q0, q1, q2⟩
theorem SvInv.start (hp : -1073741824 ≤ p ∧ p ≤ 1073741824) (hv : -2097152 ≤ v ∧ v ≤ 2097152) (h : in38 (p - 0) (v - vel) 0 t) : SvInv K AQ DQ WQ t u vel 0 0 p v 0 := by
  obtain ⟨a0, a1, a2⟩ := in38_q.1 h
  refine ⟨by omega, by omega, by omega, by omega, QInv.start fun i hi => ?_⟩
  rw [vQ_box hi]
  match i, hi with
  | 0, _ => exact a0
  | 1, _ => exact a1
  | 2, _ => exact a2
end
section
variable {gn dv ds kv kp ki sh lo hi : Int} {g hh k a b : Dy} {K n : Nat} {t u : Dy} {vel ref p v s : Int}
theorem SvInv.next (X : SvV gn dv kv kp ki sh g hh k a b) (hsv : ¬ svBad kv sh kp ki lo hi) (hmd : ¬ mdBad gn dv ds) (hsh : sh ≤ 12) (hkp : kp ≤ 65536) (hki : ki ≤ 65536) (h1 : 1 ≤ K) (acc : QAcc 3 K (elQ (m38A g a b k)) (elQ (m38D hh a k)) (vQ (m38W g hh a b sh ds)) (vQ (boxD 3 t)) (vQ (boxD 3 u)))
    (hvel : -1048576 ≤ vel ∧ vel ≤ 1048576) (H : SvInv K (elQ (m38A g a b k)) (elQ (m38D hh a k)) (vQ (m38W g hh a b sh ds)) t u vel n ref p v s) (hn : n ≤ 1000) (F : f38 kv sh kp ki lo hi s ref vel p v 16777216) {c push : Int} (hc : 0 - dv ≤ c ∧ c ≤ dv) (hpu : 1 - ds ≤ push ∧ push ≤ ds - 1) :
    (-35184372088832 ≤ svT kv sh kp ki lo hi s ref vel p v 16777216 * (gn + c) ∧ svT kv sh kp ki lo hi s ref vel p v 16777216 * (gn + c) ≤ 35184372088832) ∧ (-35184372088832 ≤ (svT kv sh kp ki lo hi s ref vel p v 16777216 * (gn + c)).tdiv 65536 ∧ (svT kv sh kp ki lo hi s ref vel p v 16777216 * (gn + c)).tdiv 65536 ≤ 35184372088832) ∧
    SvInv K (elQ (m38A g a b k)) (elQ (m38D hh a k)) (vQ (m38W g hh a b sh ds)) t u vel (n + 1) (ref + vel) (p + (v + ((svT kv sh kp ki lo hi s ref vel p v 16777216 * (gn + c)).tdiv 65536 + push))) (v + ((svT kv sh kp ki lo hi s ref vel p v 16777216 * (gn + c)).tdiv 65536 + push)) (svS kv sh kp ki lo hi s ref vel p v 16777216) := by
  obtain ⟨hr, hp, hv, hs, Q⟩ := H
  obtain ⟨eS, eT, bT, bS, bp, bv⟩ := free_tick hsv (by omega) (by omega) F
  have hb := hsv
  unfold svBad piBad at hb
  unfold mdBad at hmd
  have m1 := mul_bd (b := gn + c) (B := 2097152) bT (by omega)
  have m2 := tdiv_sml m1
  have N := serve_tick X (by omega) (by omega) (by omega) (by omega) (by omega) (by omega) h1 acc Q (G := gn + c) (push := push) (by omega) hpu rfl rfl eT
  rw [← eS] at N
  refine ⟨by omega, by omega, by omega, by omega, by omega, by omega, ?_⟩
  have e1 : p + (v + ((svT kv sh kp ki lo hi s ref vel p v 16777216 * (gn + c)).tdiv 65536 + push)) - (ref + vel) = p - ref + (v - vel + ((svT kv sh kp ki lo hi s ref vel p v 16777216 * (gn + c)).tdiv 65536 + push)) := by omega
  have e2 : v + ((svT kv sh kp ki lo hi s ref vel p v 16777216 * (gn + c)).tdiv 65536 + push) - vel = v - vel + ((svT kv sh kp ki lo hi s ref vel p v 16777216 * (gn + c)).tdiv 65536 + push) := by omega
  rw [e1, e2]
  exact N
end
theorem track_bad (kv sh kp ki lo hi gn dv ds hp hv hr : Int) (gll pll : List Int) (hcg : ∀ r ∈ rws halves gll, ∀ a ∈ r, Cl a) (hcp : ∀ r ∈ rws halves pll, ∀ a ∈ r, Cl a) (h : svBad kv sh kp ki lo hi) : CallOK Tryz.prog gl 8 [.agg [.v (.int .i64 kv), .v (.int .i64 sh), .v (.int .i64 kp), .v (.int .i64 ki), .v (.int .i64 lo), .v (.int .i64 hi)], .agg [.v (.int .i64 gn), .v (.int .i64 dv), .v (.int .i64 ds)], .agg [.v (.int .i64 hp), .v (.int .i64 hv), .v (.int .i64 hr), .sl 1 (rws halves gll), .sl 1 (rws halves pll)]] (.v (.bool (true))) := by
  refine call_ok (C := ⟨Tryz.prog, gl, ti, 215, false⟩) ti_ok mixed 3000 Tryz.call8 Tryz.func8 rfl Tryz.ntmps8 (by simp) byClL byCl ?_
  rw [Tryz.results8]
  have c1 := ref38_Check_bad _ _ _ _ _ _ h
  have aw := awake38
  clear h
  repeat' (first | (simp only [go_sem, seval, IntKind.bits.eq_def, ti, tin]) | (simp (disch := omega) only [wA]) | (with_reducible first | refine cF c1 ?_ | refine dF c1 ?_ | refine cF aw ?_ | refine dF aw ?_) | refine aL ti_ok ?_ | refine dL ti_ok ?_ | refine dG ?_ | ((first | refine cC ?_ ?_ | refine gS ?_ ?_ | refine dS ?_ ?_) <;> intro hc <;> first | (exfalso; simp only [dcA] at hc; omega) | (simp only [hc]; try simp only [dcA] at hc)) | refine aO ?_ | refine dO ?_)
  all_goals exact fin_same trivial rfl
theorem track_out (kv sh kp ki lo hi gn dv ds hp hv hr : Int) (gll pll : List Int) (hcg : ∀ r ∈ rws halves gll, ∀ a ∈ r, Cl a) (hcp : ∀ r ∈ rws halves pll, ∀ a ∈ r, Cl a) (ng np : Nat) (hng : gll.length = ng) (hnp : pll.length = np) (lg : ng ≤ 9223372036854775807) (lp : np ≤ 9223372036854775807) (h : ¬ svBad kv sh kp ki lo hi) (h2 : 40 < ng ∨ 40 < np ∨ ds < 1 ∨ 12 < sh ∨ 65536 < kp ∨ 65536 < ki) : CallOK Tryz.prog gl 8 [.agg [.v (.int .i64 kv), .v (.int .i64 sh), .v (.int .i64 kp), .v (.int .i64 ki), .v (.int .i64 lo), .v (.int .i64 hi)], .agg [.v (.int .i64 gn), .v (.int .i64 dv), .v (.int .i64 ds)], .agg [.v (.int .i64 hp), .v (.int .i64 hv), .v (.int .i64 hr), .sl 1 (rws halves gll), .sl 1 (rws halves pll)]] (.v (.bool (true))) := by
  refine call_ok (C := ⟨Tryz.prog, gl, ti, 215, false⟩) ti_ok mixed 3000 Tryz.call8 Tryz.func8 rfl Tryz.ntmps8 (by simp) byClL byCl ?_
  rw [Tryz.results8]
  have c1 := ref38_Check _ _ _ _ _ _ h
  have aw := awake38
  clear h
  repeat' (first | (simp only [go_sem, seval, IntKind.bits.eq_def, ti, tin, rws_length, hng, hnp]) | (simp (disch := omega) only [wA]) | (with_reducible first | refine cF c1 ?_ | refine dF c1 ?_ | refine cF aw ?_ | refine dF aw ?_) | refine aL ti_ok ?_ | refine dL ti_ok ?_ | refine dG ?_ | ((first | refine cC ?_ ?_ | refine gS ?_ ?_ | refine dS ?_ ?_) <;> intro hc <;> first | (exfalso; simp only [dcA] at hc; omega) | (simp only [hc]; try simp only [dcA] at hc)) | refine aO ?_ | refine dO ?_)
  all_goals exact fin_same trivial rfl
theorem track_model (kv sh kp ki lo hi gn dv ds hp hv hr : Int) (gll pll : List Int) (hcg : ∀ r ∈ rws halves gll, ∀ a ∈ r, Cl a) (hcp : ∀ r ∈ rws halves pll, ∀ a ∈ r, Cl a) (ng np : Nat) (hng : gll.length = ng) (hnp : pll.length = np) (lg : ng ≤ 40) (lp : np ≤ 40) (h : ¬ svBad kv sh kp ki lo hi) (h2 : 1 ≤ ds ∧ sh ≤ 12 ∧ kp ≤ 65536 ∧ ki ≤ 65536) (hm : mdBad gn dv ds) : CallOK Tryz.prog gl 8 [.agg [.v (.int .i64 kv), .v (.int .i64 sh), .v (.int .i64 kp), .v (.int .i64 ki), .v (.int .i64 lo), .v (.int .i64 hi)], .agg [.v (.int .i64 gn), .v (.int .i64 dv), .v (.int .i64 ds)], .agg [.v (.int .i64 hp), .v (.int .i64 hv), .v (.int .i64 hr), .sl 1 (rws halves gll), .sl 1 (rws halves pll)]] (.v (.bool (true))) := by
  refine call_ok (C := ⟨Tryz.prog, gl, ti, 215, false⟩) ti_ok mixed 3000 Tryz.call8 Tryz.func8 rfl Tryz.ntmps8 (by simp) byClL byCl ?_
  rw [Tryz.results8]
  have c1 := ref38_Check _ _ _ _ _ _ h
  have md := sv_Model_bad2 kv sh kp ki lo hi gn dv ds h hm
  have aw := awake38
  clear h hm
  repeat' (first | (simp only [go_sem, seval, IntKind.bits.eq_def, ti, tin, rws_length, hng, hnp]) | (simp (disch := omega) only [wA]) | (with_reducible first | refine cF c1 ?_ | refine dF c1 ?_ | refine cF aw ?_ | refine dF aw ?_ | refine cF md ?_ | refine dF md ?_) | refine aL ti_ok ?_ | refine dL ti_ok ?_ | refine dG ?_ | ((first | refine cC ?_ ?_ | refine gS ?_ ?_ | refine dS ?_ ?_) <;> intro hc <;> first | (exfalso; simp only [dcA] at hc; omega) | (simp only [hc]; try simp only [dcA] at hc)) | refine aO ?_ | refine dO ?_)
  all_goals exact fin_same trivial rfl
def certS : Option (Nat × Dy × Dy) → List (List AV)
  | none => [[.v (.int .i64 0), .v (.slice none 0 0), .v (.slice none 0 0)]]
  | some p => [[.v (.int .i64 p.1), .sl 3 (vrows (List.replicate 3 (can p.2.1))), .sl 3 (vrows (List.replicate 3 (can p.2.2)))]]
theorem track_core (kv sh kp ki lo hi gn dv ds hp hv hr : Int) (gll pll : List Int) (hcg : ∀ r ∈ rws halves gll, ∀ a ∈ r, Cl a) (hcp : ∀ r ∈ rws halves pll, ∀ a ∈ r, Cl a) (ng np nk : Nat) (hng : gll.length = ng) (hnp : pll.length = np) (lg : ng ≤ 40) (lp : np ≤ 40) (hmx : max (ng : Int) (np : Int) = (nk : Int)) (h40 : nk ≤ 40) (hbg : ∀ n ∈ gll, isHalf n) (hbp : ∀ n ∈ pll, isHalf n) (h : ¬ svBad kv sh kp ki lo hi) (h2 : 1 ≤ ds ∧ sh ≤ 12 ∧ kp ≤ 65536 ∧ ki ≤ 65536) (hm : (0 ≤ gn ∧ gn ≤ 1048576) ∧ (0 ≤ dv ∧ dv ≤ gn) ∧ ds ≤ 1099511627776) (rA rD rW : List (List AV)) (hcA : ∀ r ∈ rA, ∀ a ∈ r, Cl a) (hcD : ∀ r ∈ rD, ∀ a ∈ r, Cl a) (hcW : ∀ r ∈ rW, ∀ a ∈ r, Cl a) (AQ DQ : Nat → Nat → Rat) (WQ : Nat → Rat) (M : Nat → Option (Dy × Dy)) (md : CallOK Tryz.prog gl 37 [.agg [.v (.int .i64 kv), .v (.int .i64 sh), .v (.int .i64 kp), .v (.int .i64 ki), .v (.int .i64 lo), .v (.int .i64 hi)], .v (.int .i64 gn), .v (.int .i64 dv), .v (.int .i64 ds)] (.tup [.agg [.sl 1 rA, .sl 1 rD, .sl 3 rW], .v .nilIface])) (mk : ∀ k : Nat, 1 ≤ k → k ≤ 32 → CallOK Tryz.prog gl 14 [.agg [.sl 1 rA, .sl 1 rD, .sl 3 rW], .v (.int .i64 k)] (.tup [certAV k 3 (M k), .v (.bool (M k).isSome)])) (good : ∀ k : Nat, 1 ≤ k → k ≤ 24 → ∀ t u, M k = some (t, u) → Mg 200000 t ∧ Mg 200000 u ∧ QAcc 3 k AQ DQ WQ (vQ (boxD 3 t)) (vQ (boxD 3 u)) ∧ CallOK Tryz.prog gl 16 [.agg [.sl 1 rA, .sl 1 rD, .sl 3 rW], .agg [.v (.int .i64 k), .sl 3 (vrows (List.replicate 3 (can t))), .sl 3 (vrows (List.replicate 3 (can u)))]] (.tup [.v (.bool true), .v .nilIface])) (next : ∀ (K : Nat) (t u : Dy) (vel : Int) (n : Nat) (ref p v s c push : Int), 1 ≤ K → QAcc 3 K AQ DQ WQ (vQ (boxD 3 t)) (vQ (boxD 3 u)) → (-1048576 ≤ vel ∧ vel ≤ 1048576) → SvInv K AQ DQ WQ t u vel n ref p v s → n ≤ 1000 → f38 kv sh kp ki lo hi s ref vel p v 16777216 → (0 - dv ≤ c ∧ c ≤ dv) → (1 - ds ≤ push ∧ push ≤ ds - 1) → (-35184372088832 ≤ svT kv sh kp ki lo hi s ref vel p v 16777216 * (gn + c) ∧ svT kv sh kp ki lo hi s ref vel p v 16777216 * (gn + c) ≤ 35184372088832) ∧ (-35184372088832 ≤ (svT kv sh kp ki lo hi s ref vel p v 16777216 * (gn + c)).tdiv 65536 ∧ (svT kv sh kp ki lo hi s ref vel p v 16777216 * (gn + c)).tdiv 65536 ≤ 35184372088832) ∧ SvInv K AQ DQ WQ t u vel (n + 1) (ref + vel) (p + (v + ((svT kv sh kp ki lo hi s ref vel p v 16777216 * (gn + c)).tdiv 65536 + push))) (v + ((svT kv sh kp ki lo hi s ref vel p v 16777216 * (gn + c)).tdiv 65536 + push)) (svS kv sh kp ki lo hi s ref vel p v 16777216)) : CallOK Tryz.prog gl 8 [.agg [.v (.int .i64 kv), .v (.int .i64 sh), .v (.int .i64 kp), .v (.int .i64 ki), .v (.int .i64 lo), .v (.int .i64 hi)], .agg [.v (.int .i64 gn), .v (.int .i64 dv), .v (.int .i64 ds)], .agg [.v (.int .i64 hp), .v (.int .i64 hv), .v (.int .i64 hr), .sl 1 (rws halves gll), .sl 1 (rws halves pll)]] (.v (.bool (true))) := by
  refine call_ok (C := ⟨Tryz.prog, gl, ti, 215, false⟩) ti_ok mixed 3000 Tryz.call8 Tryz.func8 rfl Tryz.ntmps8 (by simp) byClL byCl ?_
  rw [Tryz.results8]
  have ck := ref38_Check _ _ _ _ _ _ h
  have aw := awake38
  have hb := h
  unfold svBad piBad at hb
  have fr := fun s rp rv p v hr hs r hf => free38 kv sh kp ki lo hi s rp rv p v 16777216 h hr hs r hf
  have st := fun s rp rv p v => servo_Step kv sh kp ki lo hi s rp rv p v 16777216 h
  clear h
  repeat' (first | (simp only [go_sem, seval, IntKind.bits.eq_def, ti, tin, rws_length, hng, hnp]) | (simp (disch := omega) only [wA]) | (with_reducible first | refine cF ck ?_ | refine dF ck ?_ | refine cF aw ?_ | refine dF aw ?_ | refine cF md ?_ | refine dF md ?_) | refine aL ti_ok ?_ | refine dL ti_ok ?_ | refine dG ?_ | ((first | refine cC ?_ ?_ | refine gS ?_ ?_ | refine dS ?_ ?_) <;> intro hc <;> first | (exfalso; simp only [dcA] at hc; omega) | (simp only [hc]; try simp only [dcA] at hc)) | refine aO ?_ | refine dO ?_)
  clear ck aw md
  refine l_loop (α := Option (Nat × Dy × Dy) × Nat) (fun x => ⟨[(3, .p 0 6 0 0), (5, .p 2 5 0 0), (7, .v (.int .i64 gn)), (8, .v (.int .i64 dv)), (9, .v (.int .i64 ds)), (10, .p 3 3 0 0), (12, .p 4 3 0 0), (13, .v (.bool (x.1.isSome))), (14, .v (.int .i64 (1 + 3 * x.2 : Nat)))], [(4, ⟨3, certS x.1⟩), (3, ⟨3, [[.sl 1 rA, .sl 1 rD, .sl 3 rW]]⟩), (2, ⟨5, [[.v (.int .i64 hp), .v (.int .i64 hv), .v (.int .i64 hr), .sl 1 (rws halves gll), .sl 1 (rws halves pll)]]⟩), (0, ⟨6, [[.v (.int .i64 kv), .v (.int .i64 sh), .v (.int .i64 kp), .v (.int .i64 ki), .v (.int .i64 lo), .v (.int .i64 hi)]]⟩)], 5⟩) (fun x => x.2 ≤ 8 ∧ ∀ k t u, x.1 = some (k, t, u) → 1 ≤ k ∧ k ≤ 24 ∧ M k = some (t, u)) (fun x => 9 - x.2) ((none, 0)) _ byFresh (fun _ h => by first | (cases h; done) | exact Nat.le_of_ble_eq_true rfl) ?_ ?_ ?_
  · exact ⟨Nat.zero_le _, fun k t u h => by cases h⟩
  ·
    simp only [certS, Option.isSome]
    exact Weak.map [(0, 0), (2, 2), (3, 12), (4, 13)] rfl (by decide) (by decide) byGE byGN
  rintro ⟨o, i⟩ ⟨hiI, ho⟩
  simp only at hiI ho ⊢
  rcases o with _ | ⟨k, t, u⟩
  ·
    simp only [certS, Option.isSome]
    clear good fr st ho next
    by_cases h24 : 1 + 3 * i ≤ 24
    ·
      have c1 := mk (1 + 3 * i) (by omega) (by omega)
      have e3 : ((1 + 3 * (i + 1) : Nat) : Int) = ((1 + 3 * i : Nat) : Int) + 3 := by omega
      have hk1 : 1 ≤ 1 + 3 * i := by omega
      clear mk
      cases hmo : M (1 + 3 * i) with
      | none =>
        rw [hmo] at c1
        simp only [certAV, Option.isSome] at c1
        generalize hkk : 1 + 3 * i = kk at *
        repeat' (first | (simp only [go_sem, seval, IntKind.bits.eq_def, ti, tin]) | (simp (disch := omega) only [wA]) | (with_reducible first | refine cF c1 ?_ | refine dF c1 ?_) | refine aL ti_ok ?_ | refine dL ti_ok ?_ | refine dG ?_ | ((first | refine cC ?_ ?_ | refine gS ?_ ?_ | refine dS ?_ ?_) <;> intro hc <;> first | (exfalso; simp only [dcA] at hc; omega) | (simp only [hc]; try simp only [dcA] at hc)) | refine aO ?_ | refine dO ?_)
        refine roundEnd_of (α := Option (Nat × Dy × Dy) × Nat) (none, i + 1) ⟨by show i + 1 ≤ 8; omega, fun k t u h => by cases h⟩ (show 9 - (i + 1) < 9 - i by omega) ?_
        simp only [certS, Option.isSome, e3]
        exact byWeak
      | some pr =>
        obtain ⟨t, u⟩ := pr
        rw [hmo] at c1
        simp only [certAV, Option.isSome] at c1
        generalize hkk : 1 + 3 * i = kk at *
        repeat' (first | (simp only [go_sem, seval, IntKind.bits.eq_def, ti, tin]) | (simp (disch := omega) only [wA]) | (with_reducible first | refine cF c1 ?_ | refine dF c1 ?_) | refine aL ti_ok ?_ | refine dL ti_ok ?_ | refine dG ?_ | ((first | refine cC ?_ ?_ | refine gS ?_ ?_ | refine dS ?_ ?_) <;> intro hc <;> first | (exfalso; simp only [dcA] at hc; omega) | (simp only [hc]; try simp only [dcA] at hc)) | refine aO ?_ | refine dO ?_)
        refine roundEnd_of (α := Option (Nat × Dy × Dy) × Nat) (some (kk, t, u), i + 1) ⟨by show i + 1 ≤ 8; omega, fun k t' u' h => by injection h with h; injection h with h1 h2; injection h2 with h2 h3; subst h1 h2 h3; exact ⟨hk1, h24, hmo⟩⟩ (show 9 - (i + 1) < 9 - i by omega) ?_
        simp only [certS, Option.isSome, e3]
        exact byWeak
    ·
      have h25 : (24 : Int) < ((1 + 3 * i : Nat) : Int) := by omega
      clear mk
      generalize 1 + 3 * i = kk at *
      repeat' (first | (simp only [go_sem, seval, IntKind.bits.eq_def, ti, tin]) | (simp (disch := omega) only [wA]) | refine aL ti_ok ?_ | refine dL ti_ok ?_ | refine dG ?_ | ((first | refine cC ?_ ?_ | refine gS ?_ ?_ | refine dS ?_ ?_) <;> intro hc <;> first | (exfalso; simp only [dcA] at hc; omega) | (simp only [hc]; try simp only [dcA] at hc)) | refine aO ?_ | refine dO ?_)
      all_goals exact fin_same trivial rfl
  obtain ⟨k1, k24, hmo⟩ := ho k t u rfl
  obtain ⟨gt, gu, acc, ac1⟩ := good k k1 k24 t u hmo
  clear ho good mk hmo
  simp only [certS, Option.isSome]
  have q1 := base_Clip hr (-1048576) 1048576
  have q2 := base_Clip hv (-1048576) 1048576
  have q3 := base_Clip hp (-1073741824) 1073741824
  have s1 := clip_bd (lo := -1048576) (hi := 1048576) (by omega) hr
  have s2 := clip_bd (lo := -1048576) (hi := 1048576) (by omega) hv
  have s3 := clip_bd (lo := -1073741824) (hi := 1073741824) (by omega) hp
  generalize clip hr (-1048576) 1048576 = vel at *
  generalize clip hv (-1048576) 1048576 = V0 at *
  generalize clip hp (-1073741824) 1073741824 = P0 at *
  obtain ⟨r0, hr0⟩ : ∃ r : Bool, in38 (P0 - 0) (vel + V0 - vel) 0 t ↔ r = true := by
    by_cases q : in38 (P0 - 0) (vel + V0 - vel) 0 t
    · exact ⟨true, iff_of_true q rfl⟩
    · exact ⟨false, iff_of_false q (by decide)⟩
  have i0 := law38_inside (P0 - 0) (vel + V0 - vel) 0 t (by omega) (by omega) (by omega) gt r0 hr0
  have ins := fun p v s (hp : -4611686018427387904 ≤ p ∧ p ≤ 4611686018427387904) (hv : -4611686018427387904 ≤ v ∧ v ≤ 4611686018427387904) (hs : -4611686018427387904 ≤ s ∧ s ≤ 4611686018427387904) r hr => law38_inside p v s u hp hv hs gu r hr
  have hcT : ∀ r ∈ vrows (List.replicate 3 (can t)), ∀ a ∈ r, Cl a := vrows_cl _
  have hcU : ∀ r ∈ vrows (List.replicate 3 (can u)), ∀ a ∈ r, Cl a := vrows_cl _
  generalize vrows (List.replicate 3 (can t)) = rT at *
  generalize vrows (List.replicate 3 (can u)) = rU at *
  cases r0 with
  | false =>
    clear hr0 ins acc next fr st
    repeat' (first | (simp only [go_sem, seval, IntKind.bits.eq_def, ti, tin, rws_length, hng, hnp]) | (simp (disch := omega) only [wA]) | (with_reducible first | refine cF ac1 ?_ | refine dF ac1 ?_ | refine cF q1 ?_ | refine dF q1 ?_ | refine cF q2 ?_ | refine dF q2 ?_ | refine cF q3 ?_ | refine dF q3 ?_ | refine cF i0 ?_ | refine dF i0 ?_) | refine aL ti_ok ?_ | refine dL ti_ok ?_ | refine dG ?_ | ((first | refine cC ?_ ?_ | refine gS ?_ ?_ | refine dS ?_ ?_) <;> intro hc <;> first | (exfalso; simp only [dcA] at hc; omega) | (simp only [hc]; try simp only [dcA] at hc)) | refine aO ?_ | refine dO ?_)
    all_goals exact fin_same trivial rfl
  | true =>
    have H0 := SvInv.start (K := k) (AQ := AQ) (DQ := DQ) (WQ := WQ) (t := t) (u := u) (vel := vel) (p := P0) (v := vel + V0) s3 (by omega) (hr0.2 rfl)
    clear hr0
    repeat' (first | (simp only [go_sem, seval, IntKind.bits.eq_def, ti, tin, rws_length, hng, hnp, hmx]) | (simp (disch := omega) only [wA]) | (with_reducible first | refine cF ac1 ?_ | refine dF ac1 ?_ | refine cF q1 ?_ | refine dF q1 ?_ | refine cF q2 ?_ | refine dF q2 ?_ | refine cF q3 ?_ | refine dF q3 ?_ | refine cF i0 ?_ | refine dF i0 ?_) | refine aL ti_ok ?_ | refine dL ti_ok ?_ | refine dG ?_ | ((first | refine cC ?_ ?_ | refine gS ?_ ?_ | refine dS ?_ ?_) <;> intro hc <;> first | (exfalso; simp only [dcA] at hc; omega) | (simp only [hc]; try simp only [dcA] at hc)) | refine aO ?_ | refine dO ?_)
    all_goals
      clear ac1 q1 q2 q3 i0
      refine l_loop (α := Nat × Int × Int × Int × Int) (fun x => ⟨[(3, .p 0 6 0 0), (5, .p 2 5 0 0), (7, .v (.int .i64 gn)), (8, .v (.int .i64 dv)), (9, .v (.int .i64 ds)), (12, .p 4 3 0 0), (19, .p 5 1 0 0), (20, .v (.int .i64 x.2.1)), (21, .v (.int .i64 vel)), (22, .v (.int .i64 x.2.2.1)), (23, .v (.int .i64 x.2.2.2.1)), (146, .v (.int .i64 nk)), (147, .v (.int .i64 x.1))], [(5, ⟨1, [[.v (.int .i64 x.2.2.2.2)]]⟩), (4, ⟨3, [[.v (.int .i64 k), .sl 3 rT, .sl 3 rU]]⟩), (2, ⟨5, [[.v (.int .i64 hp), .v (.int .i64 hv), .v (.int .i64 hr), .sl 1 (rws halves gll), .sl 1 (rws halves pll)]]⟩), (0, ⟨6, [[.v (.int .i64 kv), .v (.int .i64 sh), .v (.int .i64 kp), .v (.int .i64 ki), .v (.int .i64 lo), .v (.int .i64 hi)]]⟩)], 6⟩) (fun x => x.1 ≤ nk ∧ SvInv k AQ DQ WQ t u vel x.1 x.2.1 x.2.2.1 x.2.2.2.1 x.2.2.2.2) (fun x => nk - x.1) ((0, 0, P0, vel + V0, 0)) _ byFresh (fun _ h => by first | (cases h; done) | exact Nat.le_of_ble_eq_true rfl) ?_ ?_ ?_
      · exact ⟨Nat.zero_le _, H0⟩
      ·
        exact Weak.map [(0, 0), (2, 2), (4, 4), (5, 5)] rfl (by decide) (by decide) byGE byGN
      clear H0 s2 s3
      rintro ⟨j, ref, p, v, s⟩ ⟨hj, H⟩
      simp only at hj H ⊢
      have hR := H.hr
      have hP := H.hp
      have hV := H.hv
      have hS := H.hs
      by_cases hjn : j < nk
      rotate_left
      ·
        clear next fr st ins acc H
        repeat' (first | (simp only [go_sem, seval, IntKind.bits.eq_def, ti, tin]) | (simp (disch := omega) only [wA]) | refine aL ti_ok ?_ | refine dL ti_ok ?_ | refine dG ?_ | ((first | refine cC ?_ ?_ | refine gS ?_ ?_ | refine dS ?_ ?_) <;> intro hc <;> first | (exfalso; simp only [dcA] at hc; omega) | (simp only [hc]; try simp only [dcA] at hc)) | refine aO ?_ | refine dO ?_)
        all_goals exact fin_same trivial rfl
      by_cases hF : f38 kv sh kp ki lo hi s ref vel p v 16777216
      rotate_left
      ·
        have f1 := fr s ref vel p v (by omega) hS false (by simp [hF])
        clear next fr st ins acc H hF
        repeat' (first | (simp only [go_sem, seval, IntKind.bits.eq_def, ti, tin]) | (simp (disch := omega) only [wA]) | (with_reducible first | refine cF f1 ?_ | refine dF f1 ?_) | refine aL ti_ok ?_ | refine dL ti_ok ?_ | refine dG ?_ | ((first | refine cC ?_ ?_ | refine gS ?_ ?_ | refine dS ?_ ?_) <;> intro hc <;> first | (exfalso; simp only [dcA] at hc; omega) | (simp only [hc]; try simp only [dcA] at hc)) | refine aO ?_ | refine dO ?_)
        all_goals exact fin_same trivial rfl
      have f1 := fr s ref vel p v (by omega) hS true (by simp [hF])
      have t1 := st s ref vel p v
      have a1 := law38_at gll j hcg (by omega) (by omega) hbg
      have a2 := law38_at pll j hcp (by omega) (by omega) hbp
      have c1 := base_Clip (at38 gll j) (0 - dv) dv
      have c2 := base_Clip (at38 pll j) (1 - ds) (ds - 1)
      have e1 := clip_bd (lo := 0 - dv) (hi := dv) (by omega) (at38 gll j)
      have e2 := clip_bd (lo := 1 - ds) (hi := ds - 1) (by omega) (at38 pll j)
      obtain ⟨b1, b2, N⟩ := next k t u vel j ref p v s _ _ k1 acc s1 H (by omega) hF e1 e2
      have hR' := N.hr
      have hP' := N.hp
      have hV' := N.hv
      have hS' := N.hs
      have i1 := ins _ _ _ (by omega) (by omega) (by omega) true ⟨fun _ => rfl, fun _ => N.high k1 acc⟩
      clear next fr st ins acc H hF
      generalize svT kv sh kp ki lo hi s ref vel p v 16777216 = T at *
      generalize svS kv sh kp ki lo hi s ref vel p v 16777216 = S' at *
      generalize clip (at38 gll j) (0 - dv) dv = c at *
      generalize clip (at38 pll j) (1 - ds) (ds - 1) = pu at *
      generalize at38 gll j = ag at *
      generalize at38 pll j = ap at *
      repeat' (first | (simp only [go_sem, seval, IntKind.bits.eq_def, ti, tin]) | (simp (disch := omega) only [wA]) | (with_reducible first | refine cF f1 ?_ | refine dF f1 ?_ | refine cF t1 ?_ | refine dF t1 ?_ | refine cF a1 ?_ | refine dF a1 ?_ | refine cF a2 ?_ | refine dF a2 ?_ | refine cF c1 ?_ | refine dF c1 ?_ | refine cF c2 ?_ | refine dF c2 ?_ | refine cF i1 ?_ | refine dF i1 ?_) | refine aL ti_ok ?_ | refine dL ti_ok ?_ | refine dG ?_ | ((first | refine cC ?_ ?_ | refine gS ?_ ?_ | refine dS ?_ ?_) <;> intro hc <;> first | (exfalso; simp only [dcA] at hc; omega) | (simp only [hc]; try simp only [dcA] at hc)) | refine aO ?_ | refine dO ?_)
      refine roundEnd_of (α := Nat × Int × Int × Int × Int) (j + 1, ref + vel, _, _, _) ⟨by show j + 1 ≤ nk; omega, N⟩ (show nk - (j + 1) < nk - j by omega) ?_
      exact byWeak
theorem tracks38 (kv sh kp ki lo hi gn dv ds hp hv hr : Int) (gl' pl' : List (List AV)) (hg : gl'.length ≤ maxLen) (fg : ∀ x ∈ gl', FitL [.int .i16] x) (hpl : pl'.length ≤ maxLen) (fp : ∀ x ∈ pl', FitL [.int .i16] x) :
    CallOK Tryz.prog gl 8 [.agg [.v (.int .i64 kv), .v (.int .i64 sh), .v (.int .i64 kp), .v (.int .i64 ki), .v (.int .i64 lo), .v (.int .i64 hi)], .agg [.v (.int .i64 gn), .v (.int .i64 dv), .v (.int .i64 ds)], .agg [.v (.int .i64 hp), .v (.int .i64 hv), .v (.int .i64 hr), .sl 1 gl', .sl 1 pl']] (.v (.bool true)) := by
  unfold maxLen at hg hpl
  obtain ⟨gll, bg, rfl, e1⟩ := fit_halves fg
  obtain ⟨pll, bp, rfl, e2⟩ := fit_halves fp
  have hcg : ∀ r ∈ rws halves gll, ∀ a ∈ r, Cl a := rws_cl clrow_h gll
  have hcp : ∀ r ∈ rws halves pll, ∀ a ∈ r, Cl a := rws_cl clrow_h pll
  by_cases h : svBad kv sh kp ki lo hi
  · exact track_bad kv sh kp ki lo hi gn dv ds hp hv hr gll pll hcg hcp h
  by_cases h2 : 40 < gll.length ∨ 40 < pll.length ∨ ds < 1 ∨ 12 < sh ∨ 65536 < kp ∨ 65536 < ki
  · exact track_out kv sh kp ki lo hi gn dv ds hp hv hr gll pll hcg hcp _ _ rfl rfl (by omega) (by omega) h h2
  by_cases h3 : mdBad gn dv ds
  · exact track_model kv sh kp ki lo hi gn dv ds hp hv hr gll pll hcg hcp _ _ rfl rfl (by omega) (by omega) h (by omega) h3
  have hb := h
  unfold svBad piBad at hb
  have hm := h3
  unfold mdBad at hm
  have X := svV (gn := gn) (dv := dv) (kv := kv) (kp := kp) (ki := ki) (sh := sh) (by omega) (by omega) (by omega) (by omega) (by omega) (by omega)
  have md := sv_Model kv sh kp ki lo hi gn dv ds h h3 _ _ _ _ _ rfl rfl rfl rfl rfl
  have hct : ckT (crM (m38A (nrm gn 16) (nrm (kp + ki) (12 + sh).toNat) (nrm ki (12 + sh).toNat) (nrm kv 12))) (crM (m38D (nrm dv 16) (nrm (kp + ki) (12 + sh).toNat) (nrm kv 12))) ((m38W (nrm gn 16) (nrm dv 16) (nrm (kp + ki) (12 + sh).toNat) (nrm ki (12 + sh).toNat) sh ds).map can) = 0 :=
    m38_ok (v_nrm_nn (by omega)) (v_nrm_nn (by omega)) (v_nrm_nn (by omega)) (v_nrm_nn (by omega)) (v_nrm_nn (by omega)) (by omega) (by omega)
  obtain ⟨oa, od, ow, fa, fd, fw⟩ := m38_facts (ds := ds) X (by omega) (by omega)
  have NX := fun (K : Nat) (t u : Dy) (vel : Int) (n : Nat) (ref p v s c push : Int) h1 acc hvel H hn F hc hpu => SvInv.next (K := K) (t := t) (u := u) (vel := vel) (n := n) (ref := ref) (p := p) (v := v) (s := s) (c := c) (push := push) X h h3 (by omega) (by omega) (by omega) h1 acc hvel H hn F hc hpu
  generalize nrm gn 16 = g at *
  generalize nrm dv 16 = hh at *
  generalize nrm kv 12 = k at *
  generalize nrm (kp + ki) (12 + sh).toNat = a at *
  generalize nrm ki (12 + sh).toNat = b at *
  have hl : (crM (m38A g a b k)).length = 3 := by simp [crM, m38A]
  refine track_core kv sh kp ki lo hi gn dv ds hp hv hr gll pll hcg hcp _ _ (max gll.length pll.length) rfl rfl (by omega) (by omega) (by omega) (by omega) bg bp h (by omega) (by omega) (mrows (crM (m38A g a b k))) (mrows (crM (m38D hh a k))) (vrows ((m38W g hh a b sh ds).map can)) (mrows_cl _) (mrows_cl _) (vrows_cl _) (elQ (m38A g a b k)) (elQ (m38D hh a k)) (vQ (m38W g hh a b sh ds)) (fun k' => makeD k' (m38A g a b k) (m38D hh a k) (m38W g hh a b sh ds)) md (fun k' h1 h2 => ?_) (fun k' h1 h2 t u hm => ?_) NX
  · have := r18_Make (crM (m38A g a b k)) (crM (m38D hh a k)) ((m38W g hh a b sh ds).map can) k' 64 3 (by omega) oa od ow (by rw [dyM_cr]; exact fine.mono fa (by omega)) (by rw [dyM_cr]; exact fine.mono fd (by omega)) (by rw [dyV_can]; exact fw.mono (by omega)) hct hl h1 h2
    rwa [dyM_cr, dyM_cr, dyV_can] at this
  · have hm' : makeD k' (dyM (crM (m38A g a b k))) (dyM (crM (m38D hh a k))) (dyV ((m38W g hh a b sh ds).map can)) = some (t, u) := by rw [dyM_cr, dyM_cr, dyV_can]; exact hm
    obtain ⟨gt, gu, nt, nu, dt, du, hacc⟩ := mk_mg (by omega) oa od ow hct hl (by omega) hm'
    have he2 := ckC_make hct hl h1 (by omega) nt nu
    have TB := tubeD_box (P := 100) (Q := 100) (by omega) oa od ow hct hl h1 (by omega) gt gu nt nu
    rw [← hl] at TB he2
    have T := tubeD_mk (P := 60) (Q := 60) TB he2 (by rw [dyM_cr]; exact fine.mono fa (by omega)) (by rw [dyM_cr]; exact fine.mono fd (by omega)) (by rw [dyV_can]; exact fw.mono (by omega)) (by rw [dyV_rep]; exact fine_box (by omega)) (by rw [dyV_rep]; exact fine_box (by omega))
    rw [dyM_cr, dyM_cr, dyV_can, dyV_rep, dyV_rep, hl] at T
    rw [dyM_cr, dyM_cr, dyV_can] at hacc
    exact ⟨gt, gu, T.qacc (by omega) hacc, mk_acc (by omega) oa od ow hct hl h1 (by omega) hm'⟩
end Go.Proofs.YtpggiabnhodjpaaGreatDoor
