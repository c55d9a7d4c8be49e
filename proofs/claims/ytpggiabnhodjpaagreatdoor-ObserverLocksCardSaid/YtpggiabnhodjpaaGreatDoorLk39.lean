/- The statement ObserverLocks: the plain part. -/
import Derived.Test.YtpggiabnhodjpaaGreatDoorObsTr
import Derived.Test.YtpggiabnhodjpaaGreatDoorT18t
import Derived.Test.YtpggiabnhodjpaaGreatDoorU4
set_option linter.unusedSimpArgs false
set_option linter.unusedVariables false
set_option linter.deprecated false
namespace Go.Proofs.YtpggiabnhodjpaaGreatDoor
open Go Go.Ax
set_option maxRecDepth 100000
set_option maxHeartbeats 4000000
def at39 (l : List Int) (i : Nat) : Int := l.getD i 0
theorem law39_at (l : List Int) (i : Nat) (hcs : ∀ r ∈ rws bytes l, ∀ a ∈ r, Cl a) (hl : l.length ≤ 9223372036854775807) (hi : i ≤ 1000) (hb : ∀ n ∈ l, isByte n) : CallOK Tryz.prog gl 47 [.sl 1 (rws bytes l), .v (.int .i64 i)] (.v (.int .i64 ((at39 l i)))) := by
  refine call_ok (C := ⟨Tryz.prog, gl, ti, 14, false⟩) ti_ok mixed 3000 Tryz.call47 Tryz.func47 rfl Tryz.ntmps47 (by simp) byClL byCl ?_
  rw [Tryz.results47]
  unfold at39
  obtain ⟨n, hn⟩ : ∃ n, l.length = n := ⟨_, rfl⟩
  rw [hn] at hl
  by_cases h : i < n
  ·
    have ri : (rws bytes l).getD i [] = [.v (.int .i8 (l.getD i 0))] := rws_getD (f := bytes) (l := l) (i := i) 0 (by omega)
    have hbi : isByte (l.getD i 0) := hb _ (getD_mem (d := 0) (by omega))
    unfold isByte at hbi
    generalize l.getD i 0 = b at *
    clear hb
    repeat' (first | (simp only [go_sem, seval, IntKind.bits.eq_def, ti, tin, rws_length, hn, ri]) | (simp (disch := omega) only [wA]) | refine aL ti_ok ?_ | refine dL ti_ok ?_ | refine dG ?_ | ((first | refine cC ?_ ?_ | refine gS ?_ ?_ | refine dS ?_ ?_) <;> intro hc <;> first | (exfalso; simp only [dcA] at hc; omega) | (simp only [hc]; try simp only [dcA] at hc)) | refine aO ?_ | refine dO ?_)
    all_goals exact fin_same trivial rfl
  ·
    have e : l.getD i 0 = 0 := by rw [List.getD, List.getElem?_eq_none (by omega)]; rfl
    rw [e]
    clear hb
    repeat' (first | (simp only [go_sem, seval, IntKind.bits.eq_def, ti, tin, rws_length, hn]) | (simp (disch := omega) only [wA]) | refine aL ti_ok ?_ | refine dL ti_ok ?_ | refine dG ?_ | ((first | refine cC ?_ ?_ | refine gS ?_ ?_ | refine dS ?_ ?_) <;> intro hc <;> first | (exfalso; simp only [dcA] at hc; omega) | (simp only [hc]; try simp only [dcA] at hc)) | refine aO ?_ | refine dO ?_)
    all_goals exact fin_same trivial rfl
theorem tm_pos {n : Int} (h : 0 ≤ n) : 0 ≤ n.tmod 4294967296 ∧ n.tmod 4294967296 ≤ 4294967295 ∧ n.tmod 4294967296 = n % 4294967296 := by
  rw [Int.tmod_eq_emod_of_nonneg h]; omega
theorem tm_bd (n : Int) : -4294967295 ≤ n.tmod 4294967296 ∧ n.tmod 4294967296 ≤ 4294967295 ∧ ∃ z, n.tmod 4294967296 = n + 4294967296 * z := by
  by_cases h : 0 ≤ n
  · have := tm_pos h
    exact ⟨by omega, by omega, -(n / 4294967296), by omega⟩
  · have h2 := tm_pos (n := -n) (by omega)
    have h3 : n.tmod 4294967296 = -((-n).tmod 4294967296) := by rw [Int.neg_tmod, Int.neg_neg]
    exact ⟨by omega, by omega, (-n) / 4294967296, by omega⟩
def nearI (n : Int) : Int := (n.tmod 4294967296 + 4294967296 + 2147483648).tmod 4294967296 - 2147483648
theorem law39_near (n : Int) (hn : -9223372036854775808 ≤ n ∧ n ≤ 9223372036854775807) : CallOK Tryz.prog gl 49 [.v (.int .i64 n)] (.v (.int .i64 ((nearI n)))) := by
  refine call_ok (C := ⟨Tryz.prog, gl, ti, 9, false⟩) ti_ok mixed 3000 Tryz.call49 Tryz.func49 rfl Tryz.ntmps49 (by simp) byClL byCl ?_
  rw [Tryz.results49]
  unfold nearI
  have h1 := tm_bd n
  have h2 := tm_pos (n := n.tmod 4294967296 + 4294967296 + 2147483648) (by omega)
  repeat' (first | (simp only [go_sem, seval, IntKind.bits.eq_def, ti, tin]) | (simp (disch := omega) only [wA]) | refine aL ti_ok ?_ | refine dL ti_ok ?_ | refine dG ?_ | ((first | refine cC ?_ ?_ | refine gS ?_ ?_ | refine dS ?_ ?_) <;> intro hc <;> first | (exfalso; simp only [dcA] at hc; omega) | (simp only [hc]; try simp only [dcA] at hc)) | refine aO ?_ | refine dO ?_)
  all_goals exact fin_same trivial rfl
theorem near_eq {n a z : Int} (h : a = n + 4294967296 * z) (ha : -2147483648 ≤ a ∧ a < 2147483648) : nearI n = a := by
  unfold nearI
  obtain ⟨b1, b2, z', b3⟩ := tm_bd n
  have h2 := tm_pos (n := n.tmod 4294967296 + 4294967296 + 2147483648) (by omega)
  omega
theorem dif_off {T L a z nz err : Int} (hL : 0 ≤ L ∧ L < 4294967296) (h : a = T - L + 4294967296 * z) (hn : 0 ≤ nz ∧ nz ≤ 16384) (ha : -((32766 - nz) * 65536) ≤ a ∧ a ≤ (32766 - nz) * 65536) (he : -nz ≤ err ∧ err ≤ nz) :
    -(65536 * (nz + 1)) ≤ 65536 * dif (T / 65536 + err) (L / 65536) - a ∧ 65536 * dif (T / 65536 + err) (L / 65536) - a ≤ 65536 * (nz + 1) := by
  unfold dif
  have e1 : T = 65536 * (T / 65536) + T % 65536 := by omega
  have e2 : L = 65536 * (L / 65536) + L % 65536 := by omega
  have b1 : 0 ≤ T % 65536 ∧ T % 65536 < 65536 := by omega
  have b2 : 0 ≤ L % 65536 ∧ L % 65536 < 65536 := by omega
  generalize T / 65536 = q at *
  generalize T % 65536 = r at *
  generalize L / 65536 = l at *
  generalize L % 65536 = t at *
  have e3 : (q + err - l + 32768) % 65536 = q + err - l + 32768 + 65536 * z := by omega
  rw [e3]
  omega
section
variable {kp ki nz ac : Int}
theorem lk_mg (hk : 0 ≤ kp ∧ kp ≤ 65536) (hi : 0 ≤ ki ∧ ki ≤ 65536) (hz : 0 ≤ nz ∧ nz ≤ 255) (ha : 0 ≤ ac ∧ ac ≤ 255) :
    okM 64 (crM (modA kp ki)) ∧ okM 64 (crM modD) ∧ okV 64 ((modW kp ki nz ac).map can) ∧ fine 16 (modA kp ki) ∧ fine 16 modD ∧ fineV 16 (modW kp ki nz ac) := by
  have b1 := mul_bd (a := kp + ki) (b := nz + 1) (A := 131072) (B := 16385) (by omega) (by omega)
  have b2 := mul_bd (a := ki) (b := nz + 1) (A := 65536) (B := 16385) (by omega) (by omega)
  have i1 : Mg 64 (Dy.int 1) := Mg.int (by decide)
  have i2 : Mg 64 (Dy.int (ac + (kp + ki) * (nz + 1))) := Mg.int (by omega)
  have i3 : Mg 64 (Dy.int (ac + ki * (nz + 1))) := Mg.int (by omega)
  have i4 : Mg 64 (nrm (65536 - (kp + ki)) 16) := mg_make (by omega)
  have i5 : Mg 64 (nrm (0 - ki) 16) := mg_make (by omega)
  have z1 : Mg 64 Dy.zero := Mg.zero _
  refine ⟨okM_cr (fun i j => ?_) (by omega), okM_cr (fun i j => ?_) (by omega), okV_can (fun i => ?_) (by omega), fun i j => ?_, fun i j => ?_, fun i => ?_⟩
  · match i, j with
    | 0, 0 => exact i4
    | 0, 1 => exact i1
    | 0, j + 2 => exact z1
    | 1, 0 => exact i5
    | 1, 1 => exact i1
    | 1, j + 2 => exact z1
    | i + 2, j => exact z1
  · match i, j with
    | 0, 0 => exact z1
    | 0, 1 => exact z1
    | 0, j + 2 => exact z1
    | 1, 0 => exact z1
    | 1, 1 => exact z1
    | 1, j + 2 => exact z1
    | i + 2, j => exact z1
  · match i with
    | 0 => exact i2
    | 1 => exact i3
    | i + 2 => exact z1
  · match i, j with
    | 0, 0 => exact Dy.d_nrm (by omega)
    | 0, 1 => exact Nat.zero_le _
    | 0, j + 2 => exact Nat.zero_le _
    | 1, 0 => exact Dy.d_nrm (by omega)
    | 1, 1 => exact Nat.zero_le _
    | 1, j + 2 => exact Nat.zero_le _
    | i + 2, j => exact Nat.zero_le _
  · match i, j with
    | 0, 0 => exact Nat.zero_le _
    | 0, 1 => exact Nat.zero_le _
    | 0, j + 2 => exact Nat.zero_le _
    | 1, 0 => exact Nat.zero_le _
    | 1, 1 => exact Nat.zero_le _
    | 1, j + 2 => exact Nat.zero_le _
    | i + 2, j => exact Nat.zero_le _
  · match i with
    | 0 => exact Nat.zero_le _
    | 1 => exact Nat.zero_le _
    | i + 2 => exact Nat.zero_le _
theorem lk_A : elQ (modA kp ki) 0 0 * 65536 = 65536 - ((kp : Rat) + (ki : Rat)) ∧ elQ (modA kp ki) 0 1 = 1 ∧ elQ (modA kp ki) 1 0 * 65536 = -(ki : Rat) ∧ elQ (modA kp ki) 1 1 = 1 := by
  have h2 : (2 : Rat) ^ 16 = 65536 := by decide +kernel
  have h3 : ((65536 : Int) : Rat) = 65536 := rfl
  have h4 : ((0 : Int) : Rat) = 0 := rfl
  refine ⟨?_, v_int1, ?_, v_int1⟩
  · show (nrm (65536 - (kp + ki)) 16).v * 65536 = _
    rw [← h2, v_nrm_mul (by omega), Rat.intCast_sub, Rat.intCast_add, h3, h2]
  · show (nrm (0 - ki) 16).v * 65536 = _
    rw [← h2, v_nrm_mul (by omega), Rat.intCast_sub, h4]; grind
theorem lk_D {i j : Nat} (hi : i < 2) (hj : j < 2) : elQ modD i j = 0 := by
  match i, hi, j, hj with
  | 0, _, 0, _ => exact Dy.v_zero
  | 0, _, 1, _ => exact Dy.v_zero
  | 1, _, 0, _ => exact Dy.v_zero
  | 1, _, 1, _ => exact Dy.v_zero
theorem lk_W : vQ (modW kp ki nz ac) 0 = (ac : Rat) + ((kp : Rat) + (ki : Rat)) * ((nz : Rat) + 1) ∧ vQ (modW kp ki nz ac) 1 = (ac : Rat) + (ki : Rat) * ((nz : Rat) + 1) := by
  have h1 : ((1 : Int) : Rat) = 1 := rfl
  constructor
  · show (Dy.int (ac + (kp + ki) * (nz + 1))).v = _
    rw [Dy.v_int, Rat.intCast_add, Rat.intCast_mul, Rat.intCast_add, Rat.intCast_add, h1]
  · show (Dy.int (ac + ki * (nz + 1))).v = _
    rw [Dy.v_int, Rat.intCast_add, Rat.intCast_mul, Rat.intCast_add, h1]
structure LkInv (K : Nat) (t u : Dy) (kp ki nz ac : Int) (k : Nat) (T L sp speed : Int) : Prop where
  hL : 0 ≤ L ∧ L < 4294967296
  hT : -(4294967296 + 1073741824 * (k : Int)) ≤ T ∧ T ≤ 4294967296 + 1073741824 * (k : Int)
  hs : -(268435456 + 256 * (k : Int)) ≤ speed ∧ speed ≤ 268435456 + 256 * (k : Int)
  off : ∃ a z : Int, a = T - L + 4294967296 * z ∧ QInv 2 K (elQ (modA kp ki)) (elQ modD) (vQ (modW kp ki nz ac)) (vQ (boxD 2 t)) (vQ (boxD 2 u)) k (st2 a (speed - sp))
variable {K : Nat} {t u : Dy} {k : Nat} {T L sp speed : Int}
theorem LkInv.high (h1 : 1 ≤ K) (acc : QAcc 2 K (elQ (modA kp ki)) (elQ modD) (vQ (modW kp ki nz ac)) (vQ (boxD 2 t)) (vQ (boxD 2 u))) (H : LkInv K t u kp ki nz ac k T L sp speed) (hu1 : u.v ≤ (((32766 - nz) * 65536 : Int) : Rat)) (hu2 : u.v ≤ ((536870912 : Int) : Rat)) (hz : 0 ≤ nz ∧ nz ≤ 255) :
    absQ ((nearI (T - L) : Int) : Rat) ≤ u.v ∧ absQ ((speed - sp : Int) : Rat) ≤ u.v ∧ (-536870912 ≤ speed - sp ∧ speed - sp ≤ 536870912) := by
  obtain ⟨a, z, e, Q⟩ := H.off
  have q0 := Q.high h1 acc (i := 0) (by omega)
  have q1 := Q.high h1 acc (i := 1) (by omega)
  rw [vQ_box (by omega)] at q0 q1
  change absQ (a : Rat) ≤ u.v at q0
  change absQ ((speed - sp : Int) : Rat) ≤ u.v at q1
  have b0 := int_of_le q0 hu1
  have e2 : nearI (T - L) = a := near_eq e (by omega)
  rw [e2]
  exact ⟨q0, q1, int_of_le q1 hu2⟩
theorem lk_start (T0 S0 : Int) (hT : 0 ≤ T0 ∧ T0 ≤ 4294967295) (hS : -268435456 ≤ S0 ∧ S0 ≤ 268435456) (nt : 0 ≤ t.v) : LkInv K t u kp ki nz ac 0 T0 T0 S0 S0 := by
  refine ⟨by omega, by omega, by omega, 0, 0, by omega, QInv.start fun i hi => ?_⟩
  rw [vQ_box hi]
  have z : absQ 0 = 0 := by decide +kernel
  match i, hi with
  | 0, _ => show absQ ((0 : Int) : Rat) ≤ _; rw [show ((0 : Int) : Rat) = 0 from rfl, z]; exact nt
  | 1, _ => show absQ ((S0 - S0 : Int) : Rat) ≤ _; rw [show S0 - S0 = 0 by omega, show ((0 : Int) : Rat) = 0 from rfl, z]; exact nt
theorem LkInv.next (h1 : 1 ≤ K) (acc : QAcc 2 K (elQ (modA kp ki)) (elQ modD) (vQ (modW kp ki nz ac)) (vQ (boxD 2 t)) (vQ (boxD 2 u))) (H : LkInv K t u kp ki nz ac k T L sp speed) (hk : k ≤ 60) (hu1 : u.v ≤ (((32766 - nz) * 65536 : Int) : Rat)) (hu2 : u.v ≤ ((536870912 : Int) : Rat)) (hz : 0 ≤ nz ∧ nz ≤ 255) (hkp : 0 ≤ kp ∧ kp ≤ 65536) (hki : 0 ≤ ki ∧ ki ≤ 65536) (hac : 0 ≤ ac ∧ ac ≤ 255)
    {err c : Int} (he : -nz ≤ err ∧ err ≤ nz) (hc : -ac ≤ c ∧ c ≤ ac) :
    LkInv K t u kp ki nz ac (k + 1) (T + (speed + c)) (trA kp ki L sp (T / 65536 + err)) (trS ki L sp (T / 65536 + err)) (speed + c) := by
  obtain ⟨hi1, hi2, hi3⟩ := H.high h1 acc hu1 hu2 hz
  obtain ⟨hL, hT, hs, a, z, e, Q⟩ := H
  have q0 := Q.high h1 acc (i := 0) (by omega)
  rw [vQ_box (by omega)] at q0
  change absQ (a : Rat) ≤ u.v at q0
  have b0 := int_of_le q0 hu1
  have hd := dif_off hL e (by omega) b0 he
  have hLm : L % 4294967296 = L := Int.emod_eq_of_lt hL.1 hL.2
  have hE : trE L (T / 65536 + err) = dif (T / 65536 + err) (L / 65536) := by unfold trE; rw [hLm]
  have N := lock_next h1 acc lk_A (fun i j hi hj => lk_D hi hj) lk_W ⟨hkp.1, hki.1⟩ Q hd hc
  have q1 := N.high h1 acc (i := 1) (by omega)
  rw [vQ_box (by omega)] at q1
  change absQ ((speed - sp + c - ki * dif (T / 65536 + err) (L / 65536) : Int) : Rat) ≤ u.v at q1
  have b1 := int_of_le q1 hu2
  have hsp : msp sp = sp := by unfold msp clip; omega
  have hS : trS ki L sp (T / 65536 + err) = sp + ki * dif (T / 65536 + err) (L / 65536) := by
    unfold trS
    rw [hE, hsp]
    generalize ki * dif (T / 65536 + err) (L / 65536) = g at *
    unfold msp clip; omega
  have hA : trA kp ki L sp (T / 65536 + err) = (L + (sp + ki * dif (T / 65536 + err) (L / 65536)) + kp * dif (T / 65536 + err) (L / 65536)) % 4294967296 := by
    unfold trA
    rw [hS, hE, hLm]
  rw [hA, hS]
  have hkk : (kp + ki) * dif (T / 65536 + err) (L / 65536) = kp * dif (T / 65536 + err) (L / 65536) + ki * dif (T / 65536 + err) (L / 65536) := Int.add_mul _ _ _
  generalize kp * dif (T / 65536 + err) (L / 65536) = gp at *
  generalize ki * dif (T / 65536 + err) (L / 65536) = gi at *
  refine ⟨by omega, by omega, by omega, a + (speed - sp) + c - (kp + ki) * dif (T / 65536 + err) (L / 65536), z - (L + (sp + gi) + gp) / 4294967296, ?_, ?_⟩
  · rw [hkk]; omega
  · rw [show speed + c - (sp + gi) = speed - sp + c - gi by omega]; exact N
end
end Go.Proofs.YtpggiabnhodjpaaGreatDoor
