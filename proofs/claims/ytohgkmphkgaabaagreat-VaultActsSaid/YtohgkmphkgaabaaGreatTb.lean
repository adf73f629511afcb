/- What functions of the program and of the document answer, and the plain laws behind it; each under the conditions that its own theorem names. -/
import Derived.Test.YtohgkmphkgaabaaGreatTa
import Derived.Test.YtohgkmphkgaabaaGreatAl3
import Derived.Test.YtohgkmphkgaabaaGreatAl4
set_option linter.unusedVariables false
namespace Go.AL
open Go Go.Proofs Go.RowKit
def xz (n : Int) : ByteArray := vE [.int .u8 (IntKind.u8.wrap (n / 2 ^ 24)), .int .u8 (IntKind.u8.wrap (n / 2 ^ 16)), .int .u8 (IntKind.u8.wrap (n / 2 ^ 8)), .int .u8 (IntKind.u8.wrap n)]
theorem xP (es : List T) : (vE es).size = es.length := by
  unfold vE strOfNums
  rw [ByteArray.size, List.size_toArray, List.length_map, List.length_map]
theorem yJ (n : Int) : (xz n).size = 4 := xP _
theorem jw (a b c d : Int) : IsU8 [T.int .u8 a, .int .u8 b, .int .u8 c, .int .u8 d] := by
  intro e he
  simp only [List.mem_cons, List.not_mem_nil, or_false] at he
  rcases he with rfl | rfl | rfl | rfl <;> rfl
set_option maxHeartbeats 1000000 in
theorem zbx (n : Int) : Spec Tryz.prog 53 [.t (.int .i64 n)] [] (.t (.str (xz n))) [] := by
  refine wI Tryz.func53 ?_
  repeat' (first | refine wC ?_ | refine wK ?_ | ((with_reducible refine zN ?_); refine zw rfl rfl rfl rfl rfl rfl ?_ ?_))
  all_goals try exact jw _ _ _ _
  exact zo (zf rfl rfl rfl) (by simp)
set_option maxHeartbeats 1000000 in
theorem vn (n : Int) : Spec Tryz.prog 32 [.t (.int .i64 n)] [] (.t (.str (xz n))) [] := by
  refine wI Tryz.func32 ?_
  repeat' (first | refine wC ?_ | refine wK ?_ | ((with_reducible refine zN ?_); refine zw rfl rfl rfl rfl rfl rfl ?_ ?_))
  all_goals try exact jw _ _ _ _
  exact zo (zf rfl rfl rfl) (by simp)
def yB (s : ByteArray) : ByteArray := (sha s).extract 0 16
theorem yW (s : ByteArray) : (yB s).size = 16 := by unfold yB; rw [ByteArray.size_extract, xc]; omega
set_option maxHeartbeats 1000000 in
theorem wb (s : ByteArray) (hs : s.size ≤ 40000000) : Spec Tryz.prog 104 [.t (.str s)] [] (.t (.str (yB s))) [] := by
  have hS := vq s hs
  have hz := xc s
  unfold yB
  generalize sha s = Y at hS hz ⊢
  refine wI Tryz.func104 ?_
  repeat' (first | refine wC ?_ | refine wK ?_ | ((with_reducible refine yF ?_); refine zy rfl rfl rfl ⟨_, rfl⟩ rfl rfl rfl ?_ ?_ ?_ ?_) | ((with_reducible refine zg ?_); refine wL hS ?_) | fail)
  all_goals try omega
  exact zo (zf rfl rfl rfl) (by simp)
set_option maxHeartbeats 1000000 in
theorem yX (s : ByteArray) (hs : s.size ≤ 40000000) : Spec Tryz.prog 49 [.t (.str s)] [] (.t (.str (yB s))) [] := by
  have hS := xv s hs
  have hz := xc s
  unfold yB
  generalize sha s = Y at hS hz ⊢
  refine wI Tryz.func49 ?_
  repeat' (first | refine wC ?_ | refine wK ?_ | ((with_reducible refine yF ?_); refine zy rfl rfl rfl ⟨_, rfl⟩ rfl rfl rfl ?_ ?_ ?_ ?_) | ((with_reducible refine zg ?_); refine wL hS ?_) | fail)
  all_goals try omega
  exact zo (zf rfl rfl rfl) (by simp)
def yf (l : List ByteArray) (j : Nat) : ByteArray := (l.take j).foldl (fun s x => s ++ (xz x.size ++ x)) (⟨#[2]⟩ ++ xz l.length)
def qK (l : List ByteArray) : ByteArray := yf l l.length
theorem xT (l : List ByteArray) (j : Nat) (h : j < l.length) : yf l (j + 1) = yf l j ++ (xz (l.getD j default).size ++ l.getD j default) := by
  unfold yf
  rw [List.take_add_one, List.getElem?_eq_getElem h, Option.toList_some, List.foldl_append]
  simp [List.getD_eq_getElem?_getD, h]
theorem vk {B : Nat} (l : List ByteArray) (hB : ∀ x ∈ l, x.size ≤ B) : ∀ j, j ≤ l.length → (yf l j).size ≤ 5 + j * (B + 4)
  | 0, _ => by
    unfold yf
    rw [List.take_zero, List.foldl_nil, ByteArray.size_append, yJ]
    show 1 + 4 ≤ _; omega
  | j + 1, h => by
    have ih := vk l hB j (by omega)
    have hm : l.getD j default ∈ l := by rw [List.getD_eq_getElem?_getD, List.getElem?_eq_getElem (by omega)]; exact List.getElem_mem _
    have := hB _ hm
    rw [xT l j (by omega), ByteArray.size_append, ByteArray.size_append, yJ, Nat.add_mul]
    omega
theorem jv (l : List ByteArray) : ∀ j, 1 ≤ (yf l j).size
  | 0 => by
    unfold yf
    rw [List.take_zero, List.foldl_nil, ByteArray.size_append]
    show 1 ≤ 1 + _; omega
  | j + 1 => by
    have ih := jv l j
    rcases Nat.lt_or_ge j l.length with h | h
    · rw [xT l j h, ByteArray.size_append]; omega
    · have e : yf l (j + 1) = yf l j := by
        unfold yf; rw [List.take_of_length_le (by omega), List.take_of_length_le h]
      rw [e]; exact ih
theorem vW (a b : ByteArray) : zU (a ++ b) = zU a ++ zU b := by
  unfold zU
  rw [ByteArray.data_append, Array.toList_append, List.map_append]
set_option maxHeartbeats 4000000 in
theorem zfa (l : List ByteArray) (B : Nat) (hB : ∀ x ∈ l, x.size ≤ B) (hl : l.length ≤ 100000) (hm : l.length * (B + 4) ≤ 20000000) : Spec Tryz.prog 29 [.t (.sl 1 (l.map .str))] [] (.t (.str (sha (qK l)))) [] := by
  have hsz := vk l hB
  have hmul : ∀ j, j ≤ l.length → j * (B + 4) ≤ l.length * (B + 4) := fun j hj => Nat.mul_le_mul_right _ hj
  have hSum := vq (qK l) (by have := hsz l.length (Nat.le_refl _); unfold qK; omega)
  have h1 := zbx (l.length : Int)
  have z1 := yJ (l.length : Int)
  have hp0 : yf l 0 = ⟨#[2]⟩ ++ xz (l.length : Int) := rfl
  generalize sha (qK l) = Y at hSum ⊢
  have o2 : (⟨#[2]⟩ : ByteArray).size = 1 := rfl
  have hw := zar (⟨#[2]⟩ ++ xz (l.length : Int)) (by rw [ByteArray.size_append, o2]; omega)
  rw [← hp0] at hw
  unfold zhF ze7 at hw
  refine wI Tryz.func29 ?_
  repeat' (first | refine wC ?_ | refine wK ?_ | ((with_reducible refine zF ?_); refine zz rfl rfl rfl rfl rfl rfl ?_ ?_) | ((with_reducible refine zg ?_); first | refine wL h1 ?_ | refine wN (.tup [_, _]) [(.par 0, .loc 3), (.res 0, .loc 901)] hw ?_) | fail)
  · rw [o2]; omega
  refine zb (za [3, 11, 12, 13] [.loc 3, .loc 901] rfl rfl) ?_
  refine ze (fun p env st => ∃ (j : Nat), j ≤ l.length ∧ p = l.length - j ∧
      env = EnvL.get [(3, .ref (.loc 3) 0 0 0), (11, .t (.sl 1 (l.map .str))), (12, .t (.int .i64 (l.length : Int))), (13, .t (.int .i64 (j : Int)))] ∧
      st = StO.get [(.loc 3, some (.var 74 [.ref (.loc 3) 0 0 0, .row (.loc 901)])), (.loc 901, some (.slt 5 1 (zU (yf l j))))])
    ?_ (n := l.length) ⟨0, by omega, rfl, rfl, rfl⟩
  clear hw h1
  rintro p env st ⟨j, hj, rfl, rfl, rfl⟩
  have hsj := hsz j hj
  have hmj := hmul j hj
  by_cases hlt : j < l.length
  · have hm2 : l.getD (j : Int).toNat default ∈ l := by rw [List.getD_eq_getElem?_getD, List.getElem?_eq_getElem (by omega)]; exact List.getElem_mem _
    have hx := hB _ hm2
    have hsucc := xT l j hlt
    have hg : l.getD (j : Int).toNat default = l.getD j default := rfl
    have hmj1 := hmul (j + 1) (by omega)
    rw [Nat.add_mul] at hmj1
    rw [← hg] at hsucc
    have h2 := zbx ((l.getD (j : Int).toNat default).size : Int)
    have z2 := yJ ((l.getD (j : Int).toNat default).size : Int)
    have hw := zaN (zU (yf l j)) (xz ((l.getD (j : Int).toNat default).size : Int) ++ l.getD (j : Int).toNat default) (by rw [ym, ByteArray.size_append, z2]; omega)
    unfold zcs ze7 at hw
    repeat' (first | refine wC ?_ | refine wK ?_ | ((with_reducible refine zF ?_); refine zz rfl rfl rfl rfl rfl rfl ?_ ?_) | ((with_reducible refine zd ?_); refine zc rfl rfl rfl rfl rfl rfl ?_ ?_ ?_) | ((with_reducible refine zg ?_); first | refine wL h2 ?_ | refine wN (.tup [_, _]) [(.par 0, .loc 3), (.par 1, .loc 901), (.res 0, .loc 902)] hw ?_) | refine zi rfl ?_ ?_ <;> intro hc)
    all_goals try (exfalso; omega)
    all_goals try omega
    refine zr (n' := l.length - (j + 1)) (by omega) ((za [3, 11, 12, 13] [.loc 3, .loc 902] rfl rfl).trans (zk (.loc 902) (.loc 901) rfl rfl rfl rfl)) ⟨j + 1, by omega, rfl, by rw [zj (by omega) (by omega)]; rfl, ?_⟩
    rw [hsucc, vW (yf l j)]; rfl
  · obtain rfl : j = l.length := by omega
    have hne : (yf l l.length).data.toList ≠ [] := by
      intro h
      have h3 := zZ (yf l l.length)
      rw [h] at h3
      have := jv l l.length
      simp at h3; omega
    have hS := jx (yf l l.length).data.toList (by rw [zZ]; omega) hne
    rw [wW, ← xZ] at hS
    unfold zcs at hS
    rw [show qK l = yf l l.length from rfl] at hSum
    generalize yf l l.length = X at hS hSum ⊢
    repeat' (first | refine wC ?_ | refine wK ?_ | ((with_reducible refine zd ?_); refine zc rfl rfl rfl rfl rfl rfl ?_ ?_ ?_) | ((with_reducible refine zg ?_); first | refine wN (.t (.str _)) [(.par 0, .loc 3), (.par 1, .loc 901)] hS ?_ | refine wL hSum ?_) | refine zi rfl ?_ ?_ <;> intro hc)
    all_goals try (exfalso; omega)
    exact zo (zf rfl rfl rfl) (by simp)
set_option maxHeartbeats 4000000 in
theorem zeE (l : List ByteArray) (B : Nat) (hB : ∀ x ∈ l, x.size ≤ B) (hl : l.length ≤ 100000) (hm : l.length * (B + 4) ≤ 20000000) : Spec Tryz.prog 31 [.t (.sl 1 (l.map .str))] [] (.t (.str (sha (qK l)))) [] := by
  have hsz := vk l hB
  have hmul : ∀ j, j ≤ l.length → j * (B + 4) ≤ l.length * (B + 4) := fun j hj => Nat.mul_le_mul_right _ hj
  have hSum := xv (qK l) (by have := hsz l.length (Nat.le_refl _); unfold qK; omega)
  have h1 := vn (l.length : Int)
  have z1 := yJ (l.length : Int)
  have hp0 : yf l 0 = ⟨#[2]⟩ ++ xz (l.length : Int) := rfl
  generalize sha (qK l) = Y at hSum ⊢
  have o2 : (⟨#[2]⟩ : ByteArray).size = 1 := rfl
  refine wI Tryz.func31 ?_
  repeat' (first | refine wC ?_ | refine wK ?_ | ((with_reducible refine zF ?_); refine zz rfl rfl rfl rfl rfl rfl ?_ ?_) | ((with_reducible refine zg ?_); refine wL h1 ?_) | fail)
  · rw [o2]; omega
  refine zb (za [3, 10, 11, 12] [] rfl rfl) ?_
  refine ze (fun p env st => ∃ (j : Nat), j ≤ l.length ∧ p = l.length - j ∧
      env = EnvL.get [(3, .t (.str (yf l j))), (10, .t (.sl 1 (l.map .str))), (11, .t (.int .i64 (l.length : Int))), (12, .t (.int .i64 (j : Int)))] ∧ st = StO.get [])
    ?_ (n := l.length) ⟨0, by omega, rfl, rfl, rfl⟩
  clear h1
  rintro p env st ⟨j, hj, rfl, rfl, rfl⟩
  have hsj := hsz j hj
  have hmj := hmul j hj
  by_cases hlt : j < l.length
  · have hm2 : l.getD (j : Int).toNat default ∈ l := by rw [List.getD_eq_getElem?_getD, List.getElem?_eq_getElem (by omega)]; exact List.getElem_mem _
    have hx := hB _ hm2
    have hsucc := xT l j hlt
    have hg : l.getD (j : Int).toNat default = l.getD j default := rfl
    have hmj1 := hmul (j + 1) (by omega)
    rw [Nat.add_mul] at hmj1
    rw [← hg] at hsucc
    have h2 := vn ((l.getD (j : Int).toNat default).size : Int)
    have z2 := yJ ((l.getD (j : Int).toNat default).size : Int)
    repeat' (first | refine wC ?_ | refine wK ?_ | ((with_reducible refine zF ?_); refine zz rfl rfl rfl rfl rfl rfl ?_ ?_) | ((with_reducible refine zd ?_); refine zc rfl rfl rfl rfl rfl rfl ?_ ?_ ?_) | ((with_reducible refine zg ?_); refine wL h2 ?_) | refine zi rfl ?_ ?_ <;> intro hc)
    all_goals try (exfalso; omega)
    all_goals try omega
    · rw [ByteArray.size_append, z2]; omega
    refine zr (n' := l.length - (j + 1)) (by omega) (za [3, 10, 11, 12] [] rfl rfl) ⟨j + 1, by omega, rfl, by rw [zj (by omega) (by omega), hsucc]; rfl, rfl⟩
  · obtain rfl : j = l.length := by omega
    rw [show qK l = yf l l.length from rfl] at hSum
    generalize yf l l.length = X at hSum ⊢
    repeat' (first | refine wC ?_ | refine wK ?_ | ((with_reducible refine zd ?_); refine zc rfl rfl rfl rfl rfl rfl ?_ ?_ ?_) | ((with_reducible refine zg ?_); refine wL hSum ?_) | refine zi rfl ?_ ?_ <;> intro hc)
    all_goals try (exfalso; omega)
    exact zo (zf rfl rfl rfl) (by simp)
def w8 (c p : Int) : ByteArray := vE [.int .u8 (IntKind.u8.wrap c), .int .u8 (IntKind.u8.wrap p)]
theorem vp (c p : Int) : (w8 c p).size = 2 := xP _
theorem zdB (a b : Int) : IsU8 [T.int .u8 a, .int .u8 b] := by
  intro e he
  simp only [List.mem_cons, List.not_mem_nil, or_false] at he
  rcases he with rfl | rfl <;> rfl
theorem vC (a : Int) : IsU8 [T.int .u8 a] := by
  intro e he
  simp only [List.mem_cons, List.not_mem_nil, or_false] at he
  rcases he with rfl; rfl
def zby (v : ByteArray) (c p : Int) : ByteArray := yB (v ++ w8 c p)
theorem zaa (v : ByteArray) (c p : Int) : (zby v c p).size = 16 := yW _
def zdr (v : ByteArray) (c : Int) : ByteArray := yB (v ++ w8 128 c)
theorem qa (v : ByteArray) (c : Int) : (zdr v c).size = 16 := yW _
theorem zgS (c : Int) : (⟨#[128]⟩ : ByteArray) ++ vE [.int .u8 (IntKind.u8.wrap c)] = w8 128 c := rfl
def yA (v : ByteArray) (c : Int) (p : Nat) : Nat → ByteArray
  | 0 => v
  | n + 1 => zby (yA v c p n) c ((p + n : Nat) : Int)
theorem kJ {v : ByteArray} (hv : v.size = 16) (c : Int) (p : Nat) : ∀ n, (yA v c p n).size = 16
  | 0 => hv
  | n + 1 => zaa _ _ _
theorem zbe (v : ByteArray) (c : Int) (p : Nat) : ∀ n, (yA v c p n).size ≤ v.size + 16
  | 0 => by rw [yA]; omega
  | n + 1 => by rw [yA, zaa]; omega
theorem zab (v : ByteArray) (c : Int) (m : Nat) : ∀ n, yA (yA v c 0 m) c m n = yA v c 0 (m + n)
  | 0 => rfl
  | n + 1 => by
    rw [yA, zab v c m n, ← Nat.add_assoc, yA, Nat.zero_add]
def zgq (v : ByteArray) (d : Nat → Nat) (c : Nat) : ByteArray := yA (zdr v (c : Int)) (c : Int) 0 (d c)
theorem vd (v : ByteArray) (d : Nat → Nat) (c : Nat) : (zgq v d c).size = 16 := kJ (qa _ _) _ _ _
def km (v : ByteArray) (d : Nat → Nat) (n : Nat) : ByteArray := zeX (zgq v d) n
theorem wd (v : ByteArray) (d : Nat → Nat) (n : Nat) : (km v d n).size = 16 * n := jm (vd v d) n
def jF (v : ByteArray) : ByteArray := yB (km v (fun _ => 3) 36)
def zdk (v m : ByteArray) : ByteArray := km v (vm (sha m)) 36
theorem vg (v m : ByteArray) : (zdk v m).size = 576 := by unfold zdk; rw [wd]
def zih (d : Nat → Nat) (w : ByteArray) (c : Nat) : ByteArray := yA (w.extract (16 * c) (16 * (c + 1))) (c : Int) (d c) (3 - d c)
theorem zcd {d : Nat → Nat} {w : ByteArray} {c : Nat} (h : 16 * (c + 1) ≤ w.size) : (zih d w c).size = 16 := kJ (by rw [ByteArray.size_extract]; omega) _ _ _
def zgs (d : Nat → Nat) (w : ByteArray) (n : Nat) : ByteArray := zeX (zih d w) n
theorem jd {d : Nat → Nat} {w : ByteArray} : ∀ n, 16 * n ≤ w.size → (zgs d w n).size = 16 * n
  | 0, _ => rfl
  | n + 1, h => by
    have := jd (d := d) (w := w) n (by omega)
    unfold zgs at this ⊢
    rw [zeX, ByteArray.size_append, zcd h, this]; omega
def ziR (m w : ByteArray) : ByteArray := yB (zgs (vm (sha m)) w 36)
theorem zh1 (v m : ByteArray) : ziR m (zdk v m) = jF v := by
  unfold ziR jF zgs km
  refine congrArg yB (jX 36 (fun c hc => ?_))
  unfold zih zdk km
  rw [zb6 (vd v _) 36 c hc]
  unfold zgq
  rw [zab]
  have := qt (sha m) c
  rw [show vm (sha m) c + (3 - vm (sha m) c) = 3 by omega]
end Go.AL
namespace Go.AL
open Go Go.RowKit
def byS (u : Int) : ByteArray := vE [.int .u8 (IntKind.u8.wrap u)]
theorem vx (u : Int) : (byS u).size = 1 := xP _
def wF (s : ByteArray) (u : Int) : ByteArray := sha (s ++ byS u)
theorem vU (s : ByteArray) (u : Int) : (wF s u).size = 32 := xc _
def ziV (p : ByteArray) : ByteArray := yB (⟨#[0]⟩ ++ p)
def zam (a b : ByteArray) : ByteArray := yB (⟨#[1]⟩ ++ a ++ b)
def ziU (t : ByteArray) : ByteArray := sha (⟨#[2]⟩ ++ t)
def ktL (s : ByteArray) : Nat → Nat → ByteArray
  | 0, i => ziV (jF (wF s (i : Int)))
  | k + 1, i => zam (ktL s k (2 * i)) (ktL s k (2 * i + 1))
theorem zJ (s : ByteArray) : ∀ k i, (ktL s k i).size = 16
  | 0, i => yW _
  | k + 1, i => yW _
def zu (s : ByteArray) (k n : Nat) : List ByteArray := (List.range n).map (ktL s k)
theorem zE (s : ByteArray) (k n : Nat) : (zu s k n).length = n := by simp [zu]
theorem y9 (s : ByteArray) (k n : Nat) : zu s k (n + 1) = zu s k n ++ [ktL s k n] := by simp [zu, List.range_succ]
theorem zdL (s : ByteArray) (k n : Nat) {i : Nat} (h : i < n) : (zu s k n).getD i default = ktL s k i := by
  unfold zu
  rw [List.getD_eq_getElem?_getD, List.getElem?_map, List.getElem?_range h]; rfl
def ktP (s : ByteArray) : ByteArray := ziU (ktL s 3 0)
theorem ky (s : ByteArray) : (ktP s).size = 32 := xc _
def ktB (s : ByteArray) (u k : Nat) : ByteArray := ktL s k (u / 2 ^ k ^^^ 1)
def ktS (s : ByteArray) (u : Nat) (m : ByteArray) : ByteArray := byS (u : Int) ++ zdk (wF s (u : Int)) m ++ ktB s u 0 ++ ktB s u 1 ++ ktB s u 2
theorem zg4 (s : ByteArray) (u : Nat) (m : ByteArray) : (ktS s u m).size = 625 := by
  unfold ktS ktB
  simp only [ByteArray.size_append, vx, vg, zJ]
theorem zhy (s : ByteArray) (u k : Nat) (hu : u < 8) (hk : k < 3) : ktL s (k + 1) (u / 2 ^ (k + 1)) = if u / 2 ^ k % 2 = 0 then zam (ktL s k (u / 2 ^ k)) (ktB s u k) else zam (ktB s u k) (ktL s k (u / 2 ^ k)) := by
  unfold ktB
  rw [ktL]
  have e : u / 2 ^ (k + 1) = u / 2 ^ k / 2 := by rw [Nat.pow_succ, Nat.div_div_eq_div_mul]
  rw [e]
  have hv : u / 2 ^ k < 8 := Nat.lt_of_le_of_lt (Nat.div_le_self _ _) hu
  generalize u / 2 ^ k = v at *
  have : v = 0 ∨ v = 1 ∨ v = 2 ∨ v = 3 ∨ v = 4 ∨ v = 5 ∨ v = 6 ∨ v = 7 := by omega
  rcases this with rfl | rfl | rfl | rfl | rfl | rfl | rfl | rfl <;> rfl
end Go.AL
namespace Go.AL
open Go Go.Proofs Go.RowKit
theorem zjg : ∀ n : Fin 256, IntKind.i64.wrap ((BitVec.ofInt IntKind.i64.bits (n.val : Int) &&& BitVec.ofInt IntKind.i64.bits 3).toNat : Int) = ((n.val % 4 : Nat) : Int) := by decide +kernel
theorem zis {n : Nat} (h : n < 256) : IntKind.i64.wrap ((BitVec.ofInt IntKind.i64.bits (n : Int) &&& BitVec.ofInt IntKind.i64.bits 3).toNat : Int) = ((n % 4 : Nat) : Int) := zjg ⟨n, h⟩
theorem ix4 : ∀ j : Fin 32, IntKind.i64.wrap ((j.val : Int).tdiv 4) = ((j.val / 4 : Nat) : Int) := by decide +kernel
theorem sh4 : ∀ j : Fin 32, IntKind.i64.wrap (6 - IntKind.i64.wrap (2 * (j.val : Int).tmod 4)) = ((6 - 2 * (j.val % 4) : Nat) : Int) := by decide +kernel
theorem mn4 (j : Nat) : min ((6 - 2 * (j % 4) : Nat) : Int).toNat IntKind.u8.bits = 6 - 2 * (j % 4) := by
  have : IntKind.u8.bits = 8 := rfl
  omega
theorem zfw (Y : ByteArray) (j : Nat) (hj : j < 32) : IntKind.i64.wrap ((BitVec.ofInt IntKind.i64.bits (IntKind.i64.wrap (bAt Y ((j / 4 : Nat) : Int) / 2 ^ (6 - 2 * (j % 4)))) &&& BitVec.ofInt IntKind.i64.bits 3).toNat : Int) = (vm Y j : Int) := by
  unfold vm
  rw [if_pos hj]
  unfold ziS
  have hb := zca Y ((j / 4 : Nat) : Int)
  generalize bAt Y ((j / 4 : Nat) : Int) = b at hb ⊢
  obtain ⟨n, rfl⟩ : ∃ n : Nat, b = n := ⟨b.toNat, by omega⟩
  have hn : n < 256 := by omega
  have hq : n / 2 ^ (6 - 2 * (j % 4)) ≤ n := Nat.div_le_self _ _
  have e : (n : Int) / 2 ^ (6 - 2 * (j % 4)) = ((n / 2 ^ (6 - 2 * (j % 4)) : Nat) : Int) := by simp
  rw [e]
  have hm : (n : Int).toNat / 2 ^ (6 - 2 * (j % 4)) = n / 2 ^ (6 - 2 * (j % 4)) := by rw [Int.toNat_natCast]
  generalize n / 2 ^ (6 - 2 * (j % 4)) = m at hq hm ⊢
  rw [zj (n := (m : Int)) (by omega) (by omega), zis (by omega)]
  exact congrArg (fun k : Nat => ((k % 4 : Nat) : Int)) hm.symm
theorem qb (Y : ByteArray) (k : Nat) (hk : k < 4) : IntKind.i64.wrap ((BitVec.ofInt IntKind.i64.bits ((xx Y 32 : Int) / 2 ^ (2 * (3 - k))) &&& BitVec.ofInt IntKind.i64.bits 3).toNat : Int) = (vm Y (32 + k) : Int) := by
  unfold vm
  rw [if_neg (by omega), show 35 - (32 + k) = 3 - k by omega]
  have hr := ku Y 32
  generalize xx Y 32 = n at hr ⊢
  have hq : n / 2 ^ (2 * (3 - k)) ≤ n := Nat.div_le_self _ _
  have e : (n : Int) / 2 ^ (2 * (3 - k)) = ((n / 2 ^ (2 * (3 - k)) : Nat) : Int) := by simp
  rw [e]
  generalize n / 2 ^ (2 * (3 - k)) = m at hq ⊢
  rw [zis (by omega)]
theorem sh3 : ∀ k : Fin 4, 0 ≤ IntKind.i64.wrap (2 * (3 - (k.val : Int))) ∧ min (IntKind.i64.wrap (2 * (3 - (k.val : Int)))).toNat IntKind.i64.bits = 2 * (3 - k.val) := by decide +kernel
set_option maxHeartbeats 4000000 in
theorem zcI (s : ByteArray) (hs : s.size ≤ 40000000) : Spec Tryz.prog 81 [.t (.str s)] [] (.t (.sl 1 (zcD (sha s) 36))) [] := by
  have hS := vq s hs
  have hz := xc s
  generalize sha s = Y at hS hz ⊢
  refine wIG Tryz.func81 ?_
  repeat' (first | refine wC ?_ | refine wK ?_ | ((with_reducible refine yG ?_); refine yo (zT := .int _ _) rfl rfl rfl rfl rfl rfl rfl rfl rfl ?_ ?_ ?_ ?_ ?_) | ((with_reducible refine zg ?_); refine wL hS ?_) | fail)
  all_goals try decide
  refine zb (za [3, 4, 5, 12] [.loc 11] rfl rfl) ?_
  refine ze (fun p env st => ∃ (j : Nat), j ≤ 32 ∧ p = 32 - j ∧
      env = EnvL.get [(3, .t (.str Y)), (4, .row (.loc 11)), (5, .t (.int .i64 (xx Y j : Int))), (12, .t (.int .i64 (j : Int)))] ∧ st = StO.get [(.loc 11, some (.slt 3 1 (zcD Y j)))])
    ?_ (n := 32) ⟨0, by omega, rfl, rfl, rfl⟩
  rintro p env st ⟨j, hj, rfl, rfl, rfl⟩
  by_cases hlt : j < 32
  · have h1 := ix4 ⟨j, hlt⟩
    have h2 := sh4 ⟨j, hlt⟩
    have h3 := mn4 j
    have h4 := zfw Y j hlt
    have h5 := qt Y j
    have h6 := ku Y j
    simp only at h1 h2
    repeat' (first | refine wC ?_ | (exfalso; omega) | refine wK ?_ | ((with_reducible refine zF ?_); refine qY rfl rfl rfl rfl rfl rfl ?_ ?_) | ((with_reducible refine yx ?_); refine zK rfl rfl rfl rfl rfl rfl ?_ ?_ ?_) | ((with_reducible refine zD ?_); refine zn rfl rfl rfl rfl rfl rfl rfl rfl rfl rfl ?_ ?_ ?_) | refine zi rfl ?_ ?_ <;> intro hc)
    all_goals try simp only [h1, h2, h3, h4, qn, List.length_singleton]
    all_goals try omega
    refine zr (n' := 32 - (j + 1)) (by omega) ((za [3, 4, 5, 12] [.loc 29] rfl rfl).trans (zk (.loc 29) (.loc 11) rfl rfl rfl rfl)) ⟨j + 1, by omega, rfl, ?_, ?_⟩
    · try simp only [h1, h2, h3, h4]
      have : xx Y (j + 1) = xx Y j + 3 - vm Y j := by rw [xx, vm, if_pos hlt]
      rw [this, zj (n := (xx Y j : Int) + 3) (by omega) (by omega), zj (by omega) (by omega), zj (by omega) (by omega), show ((xx Y j : Int) + 3 - (vm Y j : Int)) = ((xx Y j + 3 - vm Y j : Nat) : Int) by omega]
      rfl
    · try simp only [h1, h2, h3, h4]
      rw [xM]
      rfl
  · obtain rfl : j = 32 := by omega
    repeat' (first | refine wC ?_ | refine wK ?_ | fail)
    refine zb (za [4, 5, 8] [.loc 11] rfl rfl) ?_
    refine ze (fun p env st => ∃ (k : Nat), k ≤ 4 ∧ p = 4 - k ∧
        env = EnvL.get [(4, .row (.loc 11)), (5, .t (.int .i64 (xx Y 32 : Int))), (8, .t (.int .i64 (3 - (k : Int))))] ∧ st = StO.get [(.loc 11, some (.slt 3 1 (zcD Y (32 + k))))])
      ?_ (n := 4) ⟨0, by omega, rfl, rfl, rfl⟩
    rintro p env st ⟨k, hk, rfl, rfl, rfl⟩
    by_cases hlt : k < 4
    · have h1 := sh3 ⟨k, hlt⟩
      have h4 := qb Y k hlt
      simp only at h1
      obtain ⟨h1, h2⟩ := h1
      repeat' (first | refine wC ?_ | (exfalso; omega) | refine wK ?_ | ((with_reducible refine zF ?_); refine qY rfl rfl rfl rfl rfl rfl ?_ ?_) | ((with_reducible refine zD ?_); refine zn rfl rfl rfl rfl rfl rfl rfl rfl rfl rfl ?_ ?_ ?_) | refine zi rfl ?_ ?_ <;> intro hc)
      all_goals try simp only [h2, h4, qn, List.length_singleton]
      all_goals try omega
      refine zr (n' := 4 - (k + 1)) (by omega) ((za [4, 5, 8] [.loc 46] rfl rfl).trans (zk (.loc 46) (.loc 11) rfl rfl rfl rfl)) ⟨k + 1, by omega, rfl, ?_, ?_⟩
      · rw [zj (by omega) (by omega), show (3 : Int) - (k : Int) - 1 = 3 - ((k + 1 : Nat) : Int) by omega]
        rfl
      · try simp only [h2, h4]
        rw [show 32 + (k + 1) = 32 + k + 1 by omega, xM]
        rfl
    · obtain rfl : k = 4 := by omega
      repeat' (first | refine wC ?_ | refine wK ?_ | fail)
      refine zx (zh (id := .loc 11) rfl rfl rfl) ?_
      exact zQ (zo (zf rfl rfl rfl) (zv trivial))
theorem ziE (Y : ByteArray) : [T.int .i64 (IntKind.i64.wrap ((BitVec.ofInt IntKind.i64.bits ((xx Y 32 : Int) / 2 ^ 6) &&& BitVec.ofInt IntKind.i64.bits 3).toNat : Int)),
    .int .i64 (IntKind.i64.wrap ((BitVec.ofInt IntKind.i64.bits ((xx Y 32 : Int) / 2 ^ 4) &&& BitVec.ofInt IntKind.i64.bits 3).toNat : Int)),
    .int .i64 (IntKind.i64.wrap ((BitVec.ofInt IntKind.i64.bits ((xx Y 32 : Int) / 2 ^ 2) &&& BitVec.ofInt IntKind.i64.bits 3).toNat : Int)),
    .int .i64 (IntKind.i64.wrap ((BitVec.ofInt IntKind.i64.bits (xx Y 32 : Int) &&& BitVec.ofInt IntKind.i64.bits 3).toNat : Int))] = [T.int .i64 (vm Y 32 : Int), .int .i64 (vm Y 33 : Int), .int .i64 (vm Y 34 : Int), .int .i64 (vm Y 35 : Int)] := by
  have h0 := qb Y 0 (by omega)
  have h1 := qb Y 1 (by omega)
  have h2 := qb Y 2 (by omega)
  have h3 := qb Y 3 (by omega)
  simp only [Nat.sub_self, Nat.mul_zero, Int.pow_zero, Int.ediv_one] at h3
  rw [← h0, ← h1, ← h2, ← h3]
theorem zhS (Y : ByteArray) : zcD Y 36 = zcD Y 32 ++ [T.int .i64 (vm Y 32 : Int), .int .i64 (vm Y 33 : Int), .int .i64 (vm Y 34 : Int), .int .i64 (vm Y 35 : Int)] := by
  rw [xM, xM, xM, xM]
  simp
set_option maxHeartbeats 4000000 in
theorem qQ (s : ByteArray) (hs : s.size ≤ 40000000) : Spec Tryz.prog 69 [.t (.str s)] [] (.t (.sl 1 (zcD (sha s) 36))) [] := by
  have hS := xv s hs
  have hz := xc s
  generalize sha s = Y at hS hz ⊢
  refine wIG Tryz.func69 ?_
  repeat' (first | refine wC ?_ | refine wK ?_ | ((with_reducible refine zg ?_); refine wL hS ?_) | fail)
  refine zb (z8 4 (.loc 1000) 3 1 rfl rfl rfl) ?_
  refine zb (za [3, 4, 5, 10] [.loc 1000] rfl rfl) ?_
  refine ze (fun p env st => ∃ (j : Nat), j ≤ 32 ∧ p = 32 - j ∧
      env = EnvL.get [(3, .t (.str Y)), (4, .row (.loc 1000)), (5, .t (.int .i64 (xx Y j : Int))), (10, .t (.int .i64 (j : Int)))] ∧ st = StO.get [(.loc 1000, some (.slt 3 1 (zcD Y j)))])
    ?_ (n := 32) ⟨0, by omega, rfl, rfl, rfl⟩
  rintro p env st ⟨j, hj, rfl, rfl, rfl⟩
  by_cases hlt : j < 32
  · have h1 := ix4 ⟨j, hlt⟩
    have h2 := sh4 ⟨j, hlt⟩
    have h3 := mn4 j
    have h4 := zfw Y j hlt
    have h5 := qt Y j
    have h6 := ku Y j
    have h7 : IntKind.u64.wrap ((6 - 2 * (j % 4) : Nat) : Int) = ((6 - 2 * (j % 4) : Nat) : Int) := yT (by omega) (by omega)
    simp only at h1 h2
    repeat' (first | refine wC ?_ | (exfalso; omega) | refine wK ?_ | ((with_reducible refine zF ?_); refine qY rfl rfl rfl rfl rfl rfl ?_ ?_) | ((with_reducible refine yx ?_); refine zK rfl rfl rfl rfl rfl rfl ?_ ?_ ?_) | ((with_reducible refine zD ?_); refine zn rfl rfl rfl rfl rfl rfl rfl rfl rfl rfl ?_ ?_ ?_) | refine zi rfl ?_ ?_ <;> intro hc)
    all_goals try simp only [h1, h2, h7, h3, h4, qn, List.length_singleton]
    all_goals try omega
    refine zr (n' := 32 - (j + 1)) (by omega) ((za [3, 4, 5, 10] [.loc 28] rfl rfl).trans (zk (.loc 28) (.loc 1000) rfl rfl rfl rfl)) ⟨j + 1, by omega, rfl, ?_, ?_⟩
    · try simp only [h1, h2, h7, h3, h4]
      have : xx Y (j + 1) = xx Y j + 3 - vm Y j := by rw [xx, vm, if_pos hlt]
      rw [this, zj (n := (xx Y j : Int) + 3) (by omega) (by omega), zj (by omega) (by omega), zj (by omega) (by omega), show ((xx Y j : Int) + 3 - (vm Y j : Int)) = ((xx Y j + 3 - vm Y j : Nat) : Int) by omega]
      rfl
    · try simp only [h1, h2, h7, h3, h4]
      rw [xM]
      rfl
  · obtain rfl : j = 32 := by omega
    have h4 := ziE Y
    repeat' (first | refine wC ?_ | refine wK ?_ | ((with_reducible refine zD ?_); refine zn rfl rfl rfl rfl rfl rfl rfl rfl rfl rfl ?_ ?_ ?_))
    · rw [qn]; simp only [List.length_cons, List.length_nil]; omega
    · rw [qn]; simp only [List.length_cons, List.length_nil]; omega
    refine zx (za [2] [.loc 47] rfl rfl) ?_
    refine zx (zh (id := .loc 47) rfl rfl rfl) ?_
    exact zQ (zo (zf rfl rfl (congrArg (T.sl 1) ((congrArg (zcD Y 32 ++ ·) h4).trans (zhS Y).symm))) (zv trivial))
set_option maxHeartbeats 1000000 in
theorem zf2 (v : ByteArray) (hv : v.size ≤ 1000000) (c p : Int) : Spec Tryz.prog 118 [.t (.str v), .t (.int .i64 c), .t (.int .i64 p)] [] (.t (.str (zby v c p))) [] := by
  have hz := vp c p
  have hS := wb (v ++ w8 c p) (by rw [ByteArray.size_append]; omega)
  unfold zby
  generalize yB (v ++ w8 c p) = Y at hS ⊢
  unfold w8 at hS hz
  refine wI Tryz.func118 ?_
  repeat' (first | refine wC ?_ | refine wK ?_ | ((with_reducible refine zF ?_); refine zz rfl rfl rfl rfl rfl rfl ?_ ?_) | ((with_reducible refine zN ?_); refine zw rfl rfl rfl rfl rfl rfl ?_ ?_) | ((with_reducible refine zg ?_); refine wL hS ?_) | fail)
  all_goals try exact zdB _ _
  all_goals try omega
  exact zo (zf rfl rfl rfl) (by simp)
set_option maxHeartbeats 1000000 in
theorem kV (c p : Int) : Spec Tryz.prog 105 [.t (.int .i64 c), .t (.int .i64 p)] [] (.t (.str (w8 c p))) [] := by
  unfold w8
  refine wI Tryz.func105 ?_
  repeat' (first | refine wC ?_ | refine wK ?_ | ((with_reducible refine zN ?_); refine zw rfl rfl rfl rfl rfl rfl ?_ ?_))
  all_goals try exact zdB _ _
  exact zo (zf rfl rfl rfl) (by simp)
set_option maxHeartbeats 1000000 in
theorem zen (v : ByteArray) (hv : v.size ≤ 1000000) (c p : Int) : Spec Tryz.prog 93 [.t (.str v), .t (.int .i64 c), .t (.int .i64 p)] [] (.t (.str (zby v c p))) [] := by
  have hz := vp c p
  have hS := yX (v ++ w8 c p) (by rw [ByteArray.size_append]; omega)
  have hB := kV c p
  unfold zby
  generalize yB (v ++ w8 c p) = Y at hS ⊢
  generalize w8 c p = W at *
  refine wI Tryz.func93 ?_
  repeat' (first | refine wC ?_ | refine wK ?_ | ((with_reducible refine zF ?_); refine zz rfl rfl rfl rfl rfl rfl ?_ ?_) | ((with_reducible refine zg ?_); first | refine wL hB ?_ | refine wL hS ?_) | fail)
  all_goals try omega
  exact zo (zf rfl rfl rfl) (by simp)
set_option maxHeartbeats 1000000 in
theorem zc3 (v : ByteArray) (hv : v.size ≤ 1000000) (c : Int) : Spec Tryz.prog 101 [.t (.str v), .t (.int .i64 c)] [] (.t (.str (zdr v c))) [] := by
  have hz := vp 128 c
  have hS := wb (v ++ w8 128 c) (by rw [ByteArray.size_append]; omega)
  unfold zdr
  generalize yB (v ++ w8 128 c) = Y at hS ⊢
  rw [← zgS, ← ByteArray.append_assoc] at hS
  have z1 : (⟨#[128]⟩ : ByteArray).size = 1 := rfl
  have z2 : (vE [T.int .u8 (IntKind.u8.wrap c)]).size = 1 := xP _
  refine wI Tryz.func101 ?_
  repeat' (first | refine wC ?_ | refine wK ?_ | ((with_reducible refine zF ?_); refine zz rfl rfl rfl rfl rfl rfl ?_ ?_) | ((with_reducible refine zN ?_); refine zw rfl rfl rfl rfl rfl rfl ?_ ?_) | ((with_reducible refine zg ?_); refine wL hS ?_) | fail)
  all_goals try exact vC _
  all_goals try (simp only [ByteArray.size_append, z1, z2]; omega)
  exact zo (zf rfl rfl rfl) (by simp)
set_option maxHeartbeats 1000000 in
theorem qU (v : ByteArray) (hv : v.size ≤ 1000000) (c : Int) : Spec Tryz.prog 84 [.t (.str v), .t (.int .i64 c)] [] (.t (.str (zdr v c))) [] := by
  have hz := vp 128 c
  have hS := yX (v ++ w8 128 c) (by rw [ByteArray.size_append]; omega)
  have hB := kV 128 c
  unfold zdr
  generalize yB (v ++ w8 128 c) = Y at hS ⊢
  generalize w8 128 c = W at *
  refine wI Tryz.func84 ?_
  repeat' (first | refine wC ?_ | refine wK ?_ | ((with_reducible refine zF ?_); refine zz rfl rfl rfl rfl rfl rfl ?_ ?_) | ((with_reducible refine zg ?_); first | refine wL hB ?_ | refine wL hS ?_) | fail)
  all_goals try omega
  exact zo (zf rfl rfl rfl) (by simp)
set_option maxHeartbeats 2000000 in
theorem zeN (v : ByteArray) (hv : v.size ≤ 900000) (c : Int) (p n : Nat) (hp : p + n ≤ 1000) : Spec Tryz.prog 100 [.t (.str v), .t (.int .i64 c), .t (.int .i64 (p : Int)), .t (.int .i64 ((p + n : Nat) : Int))] [] (.t (.str (yA v c p n))) [] := by
  refine wI Tryz.func100 ?_
  repeat' (first | refine wC ?_ | refine wK ?_ | fail)
  refine zb (za [0, 1, 3, 9] [] rfl rfl) ?_
  refine ze (fun q env st => ∃ (j : Nat), j ≤ n ∧ q = n - j ∧
      env = EnvL.get [(0, .t (.str (yA v c p j))), (1, .t (.int .i64 c)), (3, .t (.int .i64 ((p + n : Nat) : Int))), (9, .t (.int .i64 ((p + j : Nat) : Int)))] ∧ st = StO.get [])
    ?_ (n := n) ⟨0, by omega, rfl, rfl, rfl⟩
  rintro q env st ⟨j, hj, rfl, rfl, rfl⟩
  have hz := zbe v c p j
  by_cases hlt : j < n
  · have hS := zf2 (yA v c p j) (by omega) c ((p + j : Nat) : Int)
    rw [show zby (yA v c p j) c ((p + j : Nat) : Int) = yA v c p (j + 1) from rfl] at hS
    repeat' (first | refine wC ?_ | (exfalso; omega) | refine wK ?_ | ((with_reducible refine zg ?_); refine wL hS ?_) | refine zi rfl ?_ ?_ <;> intro hc)
    refine zr (n' := n - (j + 1)) (by omega) (za [0, 1, 3, 9] [] rfl rfl) ⟨j + 1, by omega, rfl, ?_, rfl⟩
    rw [zj (by omega) (by omega), show ((p + j : Nat) : Int) + 1 = ((p + (j + 1) : Nat) : Int) by omega]
    rfl
  · obtain rfl : j = n := by omega
    repeat' (first | refine wC ?_ | (exfalso; omega) | refine wK ?_ | refine zi rfl ?_ ?_ <;> intro hc)
    exact zo (zf rfl rfl rfl) (by simp)
set_option maxHeartbeats 2000000 in
theorem qB (v : ByteArray) (hv : v.size ≤ 900000) (c : Int) (p n : Nat) (hp : p + n ≤ 1000) : Spec Tryz.prog 70 [.t (.str v), .t (.int .i64 c), .t (.int .i64 (p : Int)), .t (.int .i64 ((p + n : Nat) : Int))] [] (.t (.str (yA v c p n))) [] := by
  refine wI Tryz.func70 ?_
  repeat' (first | refine wC ?_ | refine wK ?_ | fail)
  refine zb (za [0, 1, 3, 9] [] rfl rfl) ?_
  refine ze (fun q env st => ∃ (j : Nat), j ≤ n ∧ q = n - j ∧
      env = EnvL.get [(0, .t (.str (yA v c p j))), (1, .t (.int .i64 c)), (3, .t (.int .i64 ((p + n : Nat) : Int))), (9, .t (.int .i64 ((p + j : Nat) : Int)))] ∧ st = StO.get [])
    ?_ (n := n) ⟨0, by omega, rfl, rfl, rfl⟩
  rintro q env st ⟨j, hj, rfl, rfl, rfl⟩
  have hz := zbe v c p j
  by_cases hlt : j < n
  · have hS := zen (yA v c p j) (by omega) c ((p + j : Nat) : Int)
    rw [show zby (yA v c p j) c ((p + j : Nat) : Int) = yA v c p (j + 1) from rfl] at hS
    repeat' (first | refine wC ?_ | (exfalso; omega) | refine wK ?_ | ((with_reducible refine zg ?_); refine wL hS ?_) | refine zi rfl ?_ ?_ <;> intro hc)
    refine zr (n' := n - (j + 1)) (by omega) (za [0, 1, 3, 9] [] rfl rfl) ⟨j + 1, by omega, rfl, ?_, rfl⟩
    rw [zj (by omega) (by omega), show ((p + j : Nat) : Int) + 1 = ((p + (j + 1) : Nat) : Int) by omega]
    rfl
  · obtain rfl : j = n := by omega
    repeat' (first | refine wC ?_ | (exfalso; omega) | refine wK ?_ | refine zi rfl ?_ ?_ <;> intro hc)
    exact zo (zf rfl rfl rfl) (by simp)
def zeb (d : Nat → Nat) : List Int := (List.range 36).map (fun i => (d i : Int))
theorem zap (d : Nat → Nat) : (zeb d).length = 36 := by simp [zeb]
theorem zaK (d : Nat → Nat) {j : Nat} (hj : j < 36) : (zeb d).getD (j : Int).toNat default = (d j : Int) := by
  simp [zeb, List.getD_eq_getElem?_getD, hj]
theorem jo (Y : ByteArray) : zcD Y 36 = (zeb (vm Y)).map (T.int .i64) := by simp [zcD, zeb, Function.comp_def]
def bst (q : Id) (t : Nat) (s : ByteArray) : Nat → StO
  | 0 => [(q, some (.var t [.t .nilp, .t .nilsl]))]
  | _ + 1 => [(q, some (.var t [.ref q 0 0 0, .row (.loc 901)])), (.loc 901, some (.slt 5 1 (zU s)))]
theorem jA (v : ByteArray) (d : Nat → Nat) (j : Nat) : km v d (j + 1) = km v d j ++ zgq v d j := rfl
set_option maxHeartbeats 4000000 in
theorem zbP (v : ByteArray) (hv : v.size ≤ 900000) (d : Nat → Nat) (hd : ∀ i, d i < 4) : Spec Tryz.prog 80 [.t (.str v), .t (.sl 1 ((zeb d).map (T.int .i64)))] [] (.t (.str (km v d 36))) [] := by
  have hlen := zap d
  refine wI Tryz.func80 ?_
  repeat' (first | refine wC ?_ | refine wK ?_ | fail)
  refine zb (za [0, 5, 8, 9, 10] [.loc 5] rfl rfl) ?_
  refine ze (fun q env st => ∃ (j : Nat), j ≤ 36 ∧ q = 36 - j ∧
      env = EnvL.get [(0, .t (.str v)), (5, .ref (.loc 5) 0 0 0), (8, .t (.sl 1 ((zeb d).map (T.int .i64)))), (9, .t (.int .i64 ((zeb d).length : Int))), (10, .t (.int .i64 (j : Int)))] ∧
      st = StO.get (bst (.loc 5) 74 (km v d j) j))
    ?_ (n := 36) ⟨0, by omega, rfl, rfl, rfl⟩
  rintro q env st ⟨j, hj, rfl, rfl, rfl⟩
  rw [hlen]
  have hzj := wd v d j
  by_cases hlt : j < 36
  · have hg := zaK d hlt
    have hd4 := hd j
    have hS1 := zc3 v (by omega) (j : Int)
    have hz1 := qa v (j : Int)
    have hS2 := zeN (zdr v (j : Int)) (by omega) (j : Int) 0 (d j) (by omega)
    rw [show yA (zdr v (j : Int)) (j : Int) 0 (d j) = zgq v d j from rfl, Nat.zero_add, ← hg] at hS2
    have hz2 := vd v d j
    have hsucc := jA v d j
    generalize zdr v (j : Int) = X at *
    cases j with
    | zero =>
      have e0 : km v d 0 ++ zgq v d 0 = zgq v d 0 := ByteArray.empty_append
      rw [e0] at hsucc
      rw [← hsucc] at hS2 hz2
      have hw := zar (km v d (0 + 1)) (by omega)
      unfold zhF ze7 at hw
      repeat' (first | refine wC ?_ | refine wK ?_ | ((with_reducible refine zd ?_); refine zc rfl rfl rfl rfl rfl rfl ?_ ?_ ?_) | ((with_reducible refine zg ?_); first | refine wL hS1 ?_ | refine wL hS2 ?_ | refine wN (.tup [_, _]) [(.par 0, .loc 5), (.res 0, .loc 901)] hw ?_) | fail)
      all_goals try omega
      exact zr (n' := 36 - (0 + 1)) (by omega) (za [0, 5, 8, 9, 10] [.loc 5, .loc 901] rfl rfl) ⟨0 + 1, by omega, rfl, rfl, rfl⟩
    | succ k =>
      have hw := zaN (zU (km v d (k + 1))) (zgq v d (k + 1)) (by rw [ym]; omega)
      rw [← vW, ← hsucc] at hw
      unfold zcs ze7 at hw
      unfold bst
      repeat' (first | refine wC ?_ | (exfalso; omega) | refine wK ?_ | ((with_reducible refine zd ?_); refine zc rfl rfl rfl rfl rfl rfl ?_ ?_ ?_) | ((with_reducible refine zg ?_); first | refine wL hS1 ?_ | refine wL hS2 ?_ | refine wN (.tup [_, _]) [(.par 0, .loc 5), (.par 1, .loc 901), (.res 0, .loc 902)] hw ?_) | refine zi rfl ?_ ?_ <;> intro hc)
      all_goals try omega
      refine zr (n' := 36 - (k + 1 + 1)) (by omega) ((za [0, 5, 8, 9, 10] [.loc 5, .loc 902] rfl rfl).trans (zk (.loc 902) (.loc 901) rfl rfl rfl rfl)) ⟨k + 1 + 1, by omega, rfl, by rw [zj (by omega) (by omega)]; rfl, rfl⟩
  · obtain rfl : j = 36 := by omega
    have hne : (km v d 36).data.toList ≠ [] := by
      intro h
      have h3 := zZ (km v d 36)
      rw [h] at h3
      simp at h3; omega
    have hS := jx (km v d 36).data.toList (by rw [zZ]; omega) hne
    rw [wW, ← xZ] at hS
    unfold zcs at hS
    generalize km v d 36 = X at hS ⊢
    unfold bst
    repeat' (first | refine wC ?_ | refine wK ?_ | ((with_reducible refine zg ?_); refine wN (.t (.str _)) [(.par 0, .loc 5), (.par 1, .loc 901)] hS ?_) | fail)
    exact zo (zf rfl rfl rfl) (by simp)
set_option maxHeartbeats 2000000 in
theorem zfb (v m : ByteArray) (hv : v.size ≤ 900000) (hm : m.size ≤ 900000) : Spec Tryz.prog 58 [.t (.str v), .t (.str m)] [] (.t (.str (zdk v m))) [] := by
  have h1 := zcI m (by omega)
  have h2 := zbP v hv (vm (sha m)) (qt _)
  rw [jo] at h1
  unfold zdk
  generalize km v (vm (sha m)) 36 = Y at h2 ⊢
  generalize zeb (vm (sha m)) = L at h1 h2
  refine wI Tryz.func58 ?_
  repeat' (first | refine wC ?_ | refine wK ?_ | ((with_reducible refine zg ?_); first | refine wL h1 ?_ | refine wL h2 ?_) | fail)
  exact zo (zf rfl rfl rfl) (by simp)
def zgM (j : Nat) : List T := (List.range 36).map (fun i => T.int .i64 (if i < j then 3 else 0))
theorem zgN (j : Nat) (hj : j < 36) : (zgM j).set (j : Int).toNat (.int .i64 3) = zgM (j + 1) := by
  apply List.ext_getElem
  · simp [zgM]
  · intro i h1 h2
    simp only [zgM, List.length_set, List.length_map, List.length_range] at h1
    simp only [zgM, List.getElem_set, List.getElem_map, List.getElem_range, Int.toNat_natCast]
    by_cases h : j = i
    · subst h; rw [if_pos rfl, if_pos (by omega)]
    · rw [if_neg h]
      by_cases h' : i < j
      · rw [if_pos h', if_pos (by omega)]
      · rw [if_neg h', if_neg (by omega)]
theorem zgD : zgM 36 = (zeb (fun _ => 3)).map (T.int .i64) := rfl
set_option maxHeartbeats 2000000 in
theorem zdj (v : ByteArray) (hv : v.size ≤ 900000) : Spec Tryz.prog 103 [.t (.str v)] [] (.t (.str (jF v))) [] := by
  have h2 := zbP v hv (fun _ => 3) (fun _ => by omega)
  have hz := wd v (fun _ => 3) 36
  have hS := wb (km v (fun _ => 3) 36) (by omega)
  unfold jF
  generalize yB (km v (fun _ => 3) 36) = Y at hS ⊢
  generalize km v (fun _ => 3) 36 = W at *
  rw [← zgD] at h2
  refine wI Tryz.func103 ?_
  repeat' (first | refine wC ?_ | refine wK ?_ | ((with_reducible refine yG ?_); refine yo (zT := .int _ _) rfl rfl rfl rfl rfl rfl rfl rfl rfl ?_ ?_ ?_ ?_ ?_))
  all_goals try decide
  refine zb (za [0, 3, 7, 8] [.loc 5] rfl rfl) ?_
  refine ze (fun q env st => ∃ (j : Nat), j ≤ 36 ∧ q = 36 - j ∧
      env = EnvL.get [(0, .t (.str v)), (3, .row (.loc 5)), (7, .t (.int .i64 36)), (8, .t (.int .i64 (j : Int)))] ∧
      st = StO.get [(.loc 5, some (.slt 3 1 (zgM j)))])
    ?_ (n := 36) ⟨0, by omega, rfl, rfl, rfl⟩
  rintro q env st ⟨j, hj, rfl, rfl, rfl⟩
  have hlen : (zgM j).length = 36 := by simp [zgM]
  by_cases hlt : j < 36
  · have hset := zgN j hlt
    repeat' (first | refine wC ?_ | (exfalso; omega) | refine wK ?_ | ((with_reducible refine yY ?_); refine yP rfl rfl rfl rfl rfl rfl ?_ ?_ ?_) | ((with_reducible refine zd ?_); refine zO rfl rfl rfl rfl rfl rfl rfl ?_ ?_ ?_) | refine zi rfl ?_ ?_ <;> intro hc)
    all_goals try omega
    · rfl
    refine zr (n' := 36 - (j + 1)) (by omega) (za [0, 3, 7, 8] [.loc 5] rfl rfl) ⟨j + 1, by omega, rfl, by rw [zj (by omega) (by omega)]; rfl, ?_⟩
    rw [← hset]; rfl
  · obtain rfl : j = 36 := by omega
    refine zb (zh (id := .loc 5) rfl rfl rfl) ?_
    repeat' (first | refine wC ?_ | refine wK ?_ | ((with_reducible refine zg ?_); first | refine wL h2 ?_ | refine wL hS ?_) | fail)
    all_goals exact zo (zf rfl rfl rfl) (by simp)
set_option maxHeartbeats 2000000 in
theorem zbX (v : ByteArray) (hv : v.size ≤ 900000) : Spec Tryz.prog 106 [.t (.str v)] [] (.t (.str (jF v))) [] := by
  have hz := wd v (fun _ => 3) 36
  have hS := yX (km v (fun _ => 3) 36) (by omega)
  unfold jF
  generalize yB (km v (fun _ => 3) 36) = Y at hS ⊢
  refine wI Tryz.func106 ?_
  repeat' (first | refine wC ?_ | refine wK ?_ | fail)
  refine zb (za [0, 3, 5] [] rfl rfl) ?_
  refine ze (fun q env st => ∃ (j : Nat), j ≤ 36 ∧ q = 36 - j ∧
      env = EnvL.get [(0, .t (.str v)), (3, .t (.str (km v (fun _ => 3) j))), (5, .t (.int .i64 (j : Int)))] ∧ st = StO.get [])
    ?_ (n := 36) ⟨0, by omega, rfl, rfl, rfl⟩
  rintro q env st ⟨j, hj, rfl, rfl, rfl⟩
  have hzj := wd v (fun _ => 3) j
  by_cases hlt : j < 36
  · have hS1 := qU v (by omega) (j : Int)
    have hz1 := qa v (j : Int)
    have hS2 := qB (zdr v (j : Int)) (by omega) (j : Int) 0 3 (by omega)
    rw [show yA (zdr v (j : Int)) (j : Int) 0 3 = zgq v (fun _ => 3) j from rfl, Nat.zero_add] at hS2
    have hz2 := vd v (fun _ => 3) j
    have hsucc := jA v (fun _ => 3) j
    generalize zdr v (j : Int) = X at *
    repeat' (first | refine wC ?_ | (exfalso; omega) | refine wK ?_ | ((with_reducible refine zF ?_); refine zz rfl rfl rfl rfl rfl rfl ?_ ?_) | ((with_reducible refine zg ?_); first | refine wL hS1 ?_ | refine wL hS2 ?_) | refine zi rfl ?_ ?_ <;> intro hc)
    all_goals try omega
    refine zr (n' := 36 - (j + 1)) (by omega) (za [0, 3, 5] [] rfl rfl) ⟨j + 1, by omega, rfl, by rw [zj (by omega) (by omega), hsucc]; rfl, rfl⟩
  · obtain rfl : j = 36 := by omega
    generalize km v (fun _ => 3) 36 = W at *
    repeat' (first | refine wC ?_ | refine wK ?_ | ((with_reducible refine zg ?_); refine wL hS ?_) | fail)
    all_goals exact zo (zf rfl rfl rfl) (by simp)
set_option maxHeartbeats 2000000 in
theorem ze5 (v m : ByteArray) (hv : v.size ≤ 900000) (hm : m.size ≤ 900000) : Spec Tryz.prog 61 [.t (.str v), .t (.str m)] [] (.t (.str (zdk v m))) [] := by
  have h1 := qQ m (by omega)
  rw [jo] at h1
  unfold zdk
  have hd := qt (sha m)
  generalize vm (sha m) = d at h1 hd ⊢
  have hlen := zap d
  refine wI Tryz.func61 ?_
  repeat' (first | refine wC ?_ | refine wK ?_ | ((with_reducible refine zg ?_); refine wL h1 ?_) | fail)
  refine zb (za [0, 5, 9, 10, 11] [] rfl rfl) ?_
  refine ze (fun q env st => ∃ (j : Nat), j ≤ 36 ∧ q = 36 - j ∧
      env = EnvL.get [(0, .t (.str v)), (5, .t (.str (km v d j))), (9, .t (.sl 1 ((zeb d).map (T.int .i64)))), (10, .t (.int .i64 36)), (11, .t (.int .i64 (j : Int)))] ∧ st = StO.get [])
    ?_ (n := 36) ⟨0, by omega, rfl, rfl, rfl⟩
  rintro q env st ⟨j, hj, rfl, rfl, rfl⟩
  have hzj := wd v d j
  by_cases hlt : j < 36
  · have hg := zaK d hlt
    have hd4 := hd j
    have hS1 := qU v (by omega) (j : Int)
    have hz1 := qa v (j : Int)
    have hS2 := qB (zdr v (j : Int)) (by omega) (j : Int) 0 (d j) (by omega)
    rw [show yA (zdr v (j : Int)) (j : Int) 0 (d j) = zgq v d j from rfl, Nat.zero_add, ← hg] at hS2
    have hz2 := vd v d j
    have hsucc := jA v d j
    generalize zdr v (j : Int) = X at *
    repeat' (first | refine wC ?_ | (exfalso; omega) | refine wK ?_ | ((with_reducible refine zF ?_); refine zz rfl rfl rfl rfl rfl rfl ?_ ?_) | ((with_reducible refine zd ?_); refine zc rfl rfl rfl rfl rfl rfl ?_ ?_ ?_) | ((with_reducible refine zg ?_); first | refine wL hS1 ?_ | refine wL hS2 ?_) | refine zi rfl ?_ ?_ <;> intro hc)
    all_goals try omega
    refine zr (n' := 36 - (j + 1)) (by omega) (za [0, 5, 9, 10, 11] [] rfl rfl) ⟨j + 1, by omega, rfl, by rw [zj (by omega) (by omega), hsucc]; rfl, rfl⟩
  · obtain rfl : j = 36 := by omega
    repeat' (first | refine wC ?_ | refine wK ?_ | fail)
    all_goals exact zo (zf rfl rfl rfl) (by simp)
theorem zfj (d : Nat → Nat) (w : ByteArray) (j : Nat) : zgs d w (j + 1) = zgs d w j ++ zih d w j := rfl
def zi9 (w : ByteArray) : Int := if w.size = 576 then 0 else 8
def ziT (m w : ByteArray) : ByteArray := if w.size = 576 then ziR m w else ⟨#[]⟩
set_option maxHeartbeats 4000000 in
theorem zaz (m w : ByteArray) (hm : m.size ≤ 900000) (hw : w.size ≤ 900000) : Spec Tryz.prog 48 [.t (.str m), .t (.str w)] [] (.tup [.t (.str (ziT m w)), .t (.int .i64 (zi9 w))]) [] := by
  unfold ziT zi9
  by_cases h0 : w.size = 576
  · rw [if_pos h0, if_pos h0]
    have h0' : (w.size : Int) = 576 := by omega
    have h1 := qQ m (by omega)
    rw [jo] at h1
    unfold ziR
    have hd := qt (sha m)
    generalize vm (sha m) = d at h1 hd ⊢
    have hlen := zap d
    have hze := jd (d := d) (w := w) 36 (by omega)
    have hSh := yX (zgs d w 36) (by omega)
    generalize yB (zgs d w 36) = Y at hSh ⊢
    refine wI Tryz.func48 ?_
    repeat' (first | refine wC ?_ | (exfalso; omega) | refine wK ?_ | ((with_reducible refine zg ?_); refine wL h1 ?_) | refine zR rfl ?_ ?_ <;> intro hc)
    refine zb (za [1, 6, 13, 14, 15] [] rfl rfl) ?_
    refine ze (fun q env st => ∃ (j : Nat), j ≤ 36 ∧ q = 36 - j ∧
        env = EnvL.get [(1, .t (.str w)), (6, .t (.str (zgs d w j))), (13, .t (.sl 1 ((zeb d).map (T.int .i64)))), (14, .t (.int .i64 36)), (15, .t (.int .i64 (j : Int)))] ∧ st = StO.get [])
      ?_ (n := 36) ⟨0, by omega, rfl, rfl, rfl⟩
    rintro q env st ⟨j, hj, rfl, rfl, rfl⟩
    have hzj := jd (d := d) (w := w) j (by omega)
    by_cases hlt : j < 36
    · have hg := zaK d hlt
      have hd4 := hd j
      have hex : (w.extract (16 * j) (16 * (j + 1))).size = 16 := by rw [ByteArray.size_extract]; omega
      have hS2 := qB (w.extract (16 * j) (16 * (j + 1))) (by omega) (j : Int) (d j) (3 - d j) (by omega)
      rw [show yA (w.extract (16 * j) (16 * (j + 1))) (j : Int) (d j) (3 - d j) = zih d w j from rfl, show d j + (3 - d j) = 3 by omega, ← hg] at hS2
      have hz2 : (zih d w j).size = 16 := zcd (by omega)
      have hsucc := zfj d w j
      have i1 : IntKind.i64.wrap ((j : Int) * 16) = ((16 * j : Nat) : Int) := by rw [zj (by omega) (by omega)]; omega
      have i2 : IntKind.i64.wrap ((j : Int) + 1) = ((j + 1 : Nat) : Int) := by rw [zj (by omega) (by omega)]; omega
      have i3 : IntKind.i64.wrap (((j + 1 : Nat) : Int) * 16) = ((16 * (j + 1) : Nat) : Int) := by rw [zj (by omega) (by omega)]; omega
      have e1 : w.extract (IntKind.i64.wrap ((j : Int) * 16)).toNat (IntKind.i64.wrap (IntKind.i64.wrap ((j : Int) + 1) * 16)).toNat = w.extract (16 * j) (16 * (j + 1)) := by rw [i2, i1, i3]; rfl
      rw [← e1] at hS2
      repeat' (first | refine wC ?_ | (exfalso; omega) | refine wK ?_ | ((with_reducible refine zF ?_); refine zz rfl rfl rfl rfl rfl rfl ?_ ?_) | ((with_reducible refine zd ?_); refine zc rfl rfl rfl rfl rfl rfl ?_ ?_ ?_) | ((with_reducible refine yF ?_); refine zy rfl rfl ⟨_, rfl⟩ ⟨_, rfl⟩ rfl rfl rfl ?_ ?_ ?_ ?_) | ((with_reducible refine zg ?_); refine wL hS2 ?_) | refine zi rfl ?_ ?_ <;> intro hc)
      all_goals try (simp only [i1, i2, i3]; omega)
      all_goals try omega
      refine zr (n' := 36 - (j + 1)) (by omega) (za [1, 6, 13, 14, 15] [] rfl rfl) ⟨j + 1, by omega, rfl, ?_, rfl⟩
      rw [hsucc, i2]; rfl
    · obtain rfl : j = 36 := by omega
      generalize zgs d w 36 = X at *
      repeat' (first | refine wC ?_ | refine wK ?_ | ((with_reducible refine zg ?_); refine wL hSh ?_) | fail)
      exact zo (yd rfl rfl rfl rfl rfl) (by simp)
  · rw [if_neg h0, if_neg h0]
    have h0' : (w.size : Int) ≠ 576 := by omega
    refine wI Tryz.func48 ?_
    repeat' (first | refine wC ?_ | (exfalso; omega) | refine wK ?_ | refine zR rfl ?_ ?_ <;> intro hc)
    exact zo (yd rfl rfl rfl rfl rfl) (by simp)
end Go.AL
namespace Go.AL
open Go Go.RowKit
def xY : ByteArray := ⟨#[65, 66, 67, 68, 69, 70, 71, 72, 73, 74, 75, 76, 77, 78, 79, 80, 81, 82, 83, 84, 85, 86, 87, 88, 89, 90, 97, 98, 99, 100, 101, 102, 103, 104, 105, 106, 107, 108, 109, 110, 111, 112, 113, 114, 115, 116, 117, 118, 119, 120, 121, 122, 48, 49, 50, 51, 52, 53, 54, 55, 56, 57, 45, 95]⟩
abbrev w64 (n : Int) : Int := IntKind.i64.wrap n
abbrev zhk (a b : Int) : Int := w64 ((BitVec.ofInt 64 a ||| BitVec.ofInt 64 b).toNat : Int)
abbrev zbq (a b : Int) : Int := w64 ((BitVec.ofInt 64 a &&& BitVec.ofInt 64 b).toNat : Int)
theorem kz (x : Int) : 0 ≤ zbq x 63 ∧ zbq x 63 < 64 := by
  have h : (BitVec.ofInt 64 x &&& BitVec.ofInt 64 63).toNat ≤ 63 := by
    rw [BitVec.toNat_and]
    exact Nat.le_trans Nat.and_le_right (by decide)
  unfold zbq w64
  rw [zj (by omega) (by omega)]
  omega
theorem zfs (n : Nat) (hn : n ≤ 62) {a b : Int} (ha0 : 0 ≤ a) (ha : a < 2 ^ n) (hb0 : 0 ≤ b) (hb : b < 2 ^ n) : 0 ≤ zhk a b ∧ zhk a b < 2 ^ n := by
  have hp : (2 : Int) ^ n ≤ 2 ^ 62 := by
    have : (2 : Nat) ^ n ≤ 2 ^ 62 := Nat.pow_le_pow_right (by omega) hn
    exact_mod_cast this
  have h1 : (BitVec.ofInt 64 a).toNat = a.toNat := by
    rw [BitVec.toNat_ofInt]
    congr 1
    omega
  have h2 : (BitVec.ofInt 64 b).toNat = b.toNat := by
    rw [BitVec.toNat_ofInt]
    congr 1
    omega
  have h : (BitVec.ofInt 64 a ||| BitVec.ofInt 64 b).toNat < 2 ^ n := by
    rw [BitVec.toNat_or, h1, h2]
    refine Nat.or_lt_two_pow ?_ ?_
    · have : ((a.toNat : Nat) : Int) < ((2 ^ n : Nat) : Int) := by rw [Int.toNat_of_nonneg ha0]; exact_mod_cast ha
      exact_mod_cast this
    · have : ((b.toNat : Nat) : Int) < ((2 ^ n : Nat) : Int) := by rw [Int.toNat_of_nonneg hb0]; exact_mod_cast hb
      exact_mod_cast this
  have h' : ((BitVec.ofInt 64 a ||| BitVec.ofInt 64 b).toNat : Int) < 2 ^ n := by exact_mod_cast h
  unfold zhk w64
  rw [zj (by omega) (by omega)]
  exact ⟨by omega, h'⟩
theorem wQ (s : ByteArray) (i : Int) : 0 ≤ bAt s i ∧ bAt s i ≤ 255 := by
  unfold bAt
  have := (s.data.toList.getD i.toNat 0).toNat_lt
  omega
def n24 (a b c : Int) : Int := zhk (zhk (w64 (w64 a * 2 ^ min (16 : Int).toNat 64)) (w64 (w64 b * 2 ^ min (8 : Int).toNat 64))) (w64 c)
theorem qg {a b c : Int} (ha : 0 ≤ a ∧ a ≤ 255) (hb : 0 ≤ b ∧ b ≤ 255) (hc : 0 ≤ c ∧ c ≤ 255) : 0 ≤ n24 a b c ∧ n24 a b c < 16777216 := by
  have e1 : (2 : Int) ^ min (16 : Int).toNat 64 = 65536 := by decide
  have e2 : (2 : Int) ^ min (8 : Int).toNat 64 = 256 := by decide
  unfold n24
  rw [e1, e2]
  unfold w64
  rw [zj (n := a) (by omega) (by omega), zj (n := b) (by omega) (by omega), zj (n := c) (by omega) (by omega), zj (n := a * 65536) (by omega) (by omega), zj (n := b * 256) (by omega) (by omega)]
  have h1 := zfs 24 (by decide) (a := a * 65536) (b := b * 256) (by omega) (by omega) (by omega) (by omega)
  exact zfs 24 (by decide) h1.1 h1.2 (by omega) (by omega)
def zhO (n : Int) : List T := [.int .u8 (bAt xY (n / 2 ^ min (18 : Int).toNat 64)), .int .u8 (bAt xY (zbq (n / 2 ^ min (12 : Int).toNat 64) 63)), .int .u8 (bAt xY (zbq (n / 2 ^ min (6 : Int).toNat 64) 63)), .int .u8 (bAt xY (zbq n 63))]
theorem zfm (n : Int) : IsU8 (zhO n) := by
  intro e he
  simp [zhO] at he
  rcases he with rfl | rfl | rfl | rfl <;> rfl
theorem ze0 : (xY.size : Int) = 64 := by decide
theorem qi {n : Int} (h : 0 ≤ n ∧ n < 16777216) : 0 ≤ n / 2 ^ min (18 : Int).toNat 64 ∧ n / 2 ^ min (18 : Int).toNat 64 < 64 := by
  have e1 : (2 : Int) ^ min (18 : Int).toNat 64 = 262144 := by decide
  rw [e1]
  omega
def zd7 : Nat → ByteArray → List T
  | 0, _ => []
  | k + 1, s => zhO (n24 (bAt s 0) (bAt s 1) (bAt s 2)) ++ zd7 k (s.extract 3 s.size)
theorem k9 : ∀ (k : Nat) (s : ByteArray), (zd7 k s).length = 4 * k
  | 0, _ => rfl
  | k + 1, s => by simp [zd7, k9 k, zhO]; omega
def zhT : Nat → Nat → ByteArray → List T
  | 0, _, _ => []
  | k + 1, j, s => zhO (n24 (bAt s ((3 * j : Nat) : Int)) (bAt s ((3 * j + 1 : Nat) : Int)) (bAt s ((3 * j + 2 : Nat) : Int))) ++ zhT k (j + 1) s
def vS (s : ByteArray) : ByteArray × Int :=
  if 65536 < (s.size : Int) then (⟨#[]⟩, 3) else if (s.size : Int).tmod 3 ≠ 0 then (⟨#[]⟩, 8) else (vE (zhT (s.size / 3) 0 s), 0)
theorem zg7 (r : ByteArray) : r = ⟨#[]⟩ ∨ 0 < r.size := by
  by_cases h : r.size = 0
  · left
    obtain ⟨d⟩ := r
    have : d.size = 0 := h
    simp [Array.eq_empty_of_size_eq_zero this]
  · exact .inr (by omega)
theorem IsU8.append {xs ys : List T} (h1 : IsU8 xs) (h2 : IsU8 ys) : IsU8 (xs ++ ys) := fun e he => by
  rcases List.mem_append.1 he with h | h
  · exact h1 e h
  · exact h2 e h
def yZ (s : ByteArray) : ByteArray × Int :=
  if 65536 < (s.size : Int) then (⟨#[]⟩, 3) else if (s.size : Int).tmod 3 ≠ 0 then (⟨#[]⟩, 8) else (vE (zd7 (s.size / 3) s), 0)
end Go.AL
namespace Go.AL
open Go Go.Proofs Go.RowKit
set_option maxHeartbeats 2000000 in
theorem zcN (s : ByteArray) (hs : s.size ≤ 9223372036854775807) : Spec Tryz.prog 108 [.t (.str s)] [] (.tup [.t (.str (yZ s).1), .t (.int .i64 (yZ s).2)]) [] := by
  refine wI Tryz.func108 ?_
  repeat' (first | refine wC ?_ | refine wK ?_ | ((with_reducible refine yG ?_); refine yo (zT := .int _ _) rfl rfl rfl rfl rfl rfl rfl rfl rfl ?_ ?_ ?_ ?_ ?_) | refine zi rfl ?_ ?_ <;> intro hc | refine zR rfl ?_ ?_ <;> intro hc)
  case' refine_1 =>
    refine zo (yd rfl rfl rfl ?_ ?_) (by simp) <;> simp [yZ, hc]
  case' refine_2.refine_2 =>
    refine zo (yd rfl rfl rfl ?_ ?_) (by simp) <;> simp [yZ, *]
  all_goals
    have q1 : (s.size : Int).tdiv 3 = ((s.size / 3 : Nat) : Int) := rfl
    have q3 : (s.size : Int).tmod 3 = ((s.size % 3 : Nat) : Int) := rfl
    rw [q3] at hc
    have q0 : 3 * (s.size / 3) = s.size := by omega
    have q2 : IntKind.i64.wrap (IntKind.i64.wrap ((s.size : Int).tdiv 3) * 4) = (4 * (s.size / 3) : Nat) := by
      rw [q1, zj (n := ((s.size / 3 : Nat) : Int)) (by omega) (by omega), zj (by omega) (by omega)]
      omega
  case' refine_2.refine_1.refine_1 => decide
  case' refine_2.refine_1.refine_2 => omega
  case' refine_2.refine_1.refine_3 => omega
  case' refine_2.refine_1.refine_4 => omega
  refine zb (za [0, 2, 3, 4] [.loc 19] rfl rfl) ?_
  refine ze (fun n env st => ∃ (k : Nat) (r : ByteArray) (es : List T), r.size = 3 * k ∧ n = k ∧ IsU8 es ∧ es.length + 4 * k = 4 * (s.size / 3) ∧ es ++ zd7 k r = zd7 (s.size / 3) s ∧
      env = EnvL.get [(0, .t (.str r)), (2, .t (.str ⟨#[]⟩)), (3, .t (.int .i64 0)), (4, .row (.loc 19))] ∧ st = StO.get [(.loc 19, some (.slt 5 1 es))]) ?_ (n := s.size / 3) ⟨s.size / 3, s, _, by omega, rfl, ?_, ?_, ?_, rfl, rfl⟩
  · rintro n env st ⟨k, r, es, hr, rfl, hu, hl, he, rfl, rfl⟩
    have hz := zg7 r
    repeat' (first | refine wC ?_ | refine wK ?_ | ((with_reducible refine yx ?_); refine zK rfl rfl rfl rfl rfl rfl ?_ ?_ ?_) | ((with_reducible refine zN ?_); refine zw rfl rfl rfl rfl rfl rfl ?_ ?_) | ((with_reducible refine yF ?_); refine zy rfl rfl ⟨_, rfl⟩ rfl rfl rfl rfl ?_ ?_ ?_ ?_) | ((with_reducible refine zD ?_); refine zn rfl rfl rfl rfl rfl rfl rfl rfl rfl rfl ?_ ?_ ?_) | refine zR rfl ?_ ?_ <;> intro hc)
    all_goals try have hp := hz.resolve_left hc
    all_goals try first | omega | exact hu | exact (qi (qg (wQ _ _) (wQ _ _) (wQ _ _))).1 | exact (qi (qg (wQ _ _) (wQ _ _) (wQ _ _))).2 | exact (kz _).1 | exact (kz _).2 | (simp only [List.length_cons, List.length_nil]; omega)
    · subst hc
      have hn : n = 0 := by
        have : 0 = 3 * n := hr
        omega
      subst hn
      simp [zd7] at he
      subst he
      refine zo (yd rfl rfl rfl ?_ ?_) (by simp) <;> simp [yZ, *]
    · obtain ⟨m, rfl⟩ : ∃ m, n = m + 1 := ⟨n - 1, by omega⟩
      refine zr (n' := m) (by omega) ((za [0, 2, 3, 4] [.loc 53] rfl rfl).trans (zk (.loc 53) (.loc 19) rfl rfl rfl rfl)) ⟨m, _, _, ?_, rfl, ?_, ?_, ?_, rfl, rfl⟩
      · simp [ByteArray.size_extract]; omega
      · exact hu.append (zfm _)
      · simp; omega
      · rw [List.append_assoc]; exact he
  · intro e he; simp at he
  · simp
  · simp
def frm (k : Int) (s : ByteArray) (n : Int) : T × T := (.int .i64 k, .agg [.str s, .int .i64 n])
def zir : List (T × T) := [frm 1 ⟨#[69]⟩ 32, frm 2 ⟨#[68]⟩ 32, frm 3 ⟨#[66]⟩ 32, frm 4 ⟨#[65]⟩ 32, frm 5 ⟨#[48, 65]⟩ 16, frm 6 ⟨#[77]⟩ 2, frm 7 ⟨#[83]⟩ 626, frm 8 ⟨#[49, 65, 65, 76]⟩ 6]
set_option maxHeartbeats 2000000 in
theorem zeT : Spec Tryz.prog 107 [] [] (.row (.res 0)) [(.res 0, .dat (.map zir))] := by
  refine wIG Tryz.func107 ?_
  repeat' (first | refine wC ?_ | refine wK ?_ | ((with_reducible refine zgu ?_); refine zfo rfl rfl rfl rfl rfl rfl rfl rfl ?_ ?_))
  all_goals try rfl
  refine zx (za [0] [.loc 1] rfl rfl) ?_
  refine zx (zk (.loc 1) (.res 0) rfl rfl rfl rfl) ?_
  exact zQ (zo (yl rfl (AVLE.of_eq rfl)) (zv ⟨rfl, trivial⟩))
def Dc.row (d : Dc) : Row := .var 58 [.t (.sl 1 (d.l.map (T.int .i64))), .t (.int .i64 d.k)]
set_option maxHeartbeats 1000000 in
theorem zeO (l : List Int) : Spec Tryz.prog 4 [.t (.sl 1 (l.map (T.int .i64)))] [] (.t (.bool (decide ((l.length : Int) ≤ 500)))) [] := by
  refine wI Tryz.func4 ?_
  repeat' (first | refine wC ?_ | refine wK ?_ | fail)
  exact zo (zf rfl rfl rfl) (by simp)
set_option maxHeartbeats 1000000 in
theorem zfB (l : List Int) : Spec Tryz.prog 13 [.t (.sl 1 (l.map (T.int .i64)))] [] (.ref (.res 0) 0 0 0) [(.res 0, (Dc.mk l 0).row)] := by
  unfold Dc.row
  refine wIG Tryz.func13 ?_
  repeat' (first | refine wC ?_ | refine wK ?_ | fail)
  refine zx ((za [2] [.loc 5] rfl rfl).trans (zk (.loc 5) (.res 0) rfl rfl rfl rfl)) ?_
  exact zQ (zo (yl rfl (AVLE.refl _)) (zv ⟨rfl, trivial⟩))
theorem ze9 (n m : Int) (h : 1 ≤ m) : (n.tmod m + m).tmod m = zfI n m ∧ 0 ≤ n.tmod m + m ∧ n.tmod m + m ≤ 2 * m := by
  have h1 : -m < n.tmod m ∧ n.tmod m < m := by
    have a := Int.tmod_lt_of_pos n (b := m) (by omega)
    have b := Int.lt_tmod_of_pos n (b := m) (by omega)
    exact ⟨b, a⟩
  refine ⟨?_, by omega, by omega⟩
  unfold zfI
  rw [if_neg (by omega), Int.tmod_eq_emod_of_nonneg (by omega), Int.tmod_def, show n - m * n.tdiv m + m = n + m * (1 - n.tdiv m) by rw [Int.mul_sub]; omega, Int.add_mul_emod_self_left]
set_option maxHeartbeats 1000000 in
theorem zaR (n m : Int) (h : m ≤ 4611686018427387903) : Spec Tryz.prog 8 [.t (.int .i64 n), .t (.int .i64 m)] [] (.t (.int .i64 (zfI n m))) [] := by
  refine wI Tryz.func8 ?_
  repeat' (first | refine wC ?_ | refine wK ?_ | ((with_reducible refine zF ?_); refine zhl rfl rfl rfl rfl rfl rfl ?_ ?_) | refine zi rfl ?_ ?_ <;> intro hc)
  all_goals try omega
  · exact zo (zf rfl rfl (by unfold zfI; rw [if_pos hc])) (by simp)
  · have e := ze9 n m (by omega)
    refine zo (zf rfl rfl ?_) (by simp)
    rw [zj (by omega) (by omega), e.1]
set_option maxHeartbeats 1000000 in
theorem xJ (d : Dc) (n : Int) (h : n ≤ 4611686018427387903) (hd : d.l.length ≤ 1000) : Spec Tryz.prog 15 [.ref (.par 0) 0 0 0, .t (.int .i64 n)] [(.par 0, d.row)] (.t (.int .i64 (d.next n).1)) [(.par 0, (d.next n).2.row)] := by
  have hm := zaR (d.l.getD d.k 0) n h
  unfold Dc.row Dc.next
  generalize zfI (d.l.getD d.k 0) n = v at *
  by_cases h0 : (d.l.length : Int) ≤ d.k
  · simp only [if_pos h0]
    refine wI Tryz.func15 ?_
    repeat' (first | refine wC ?_ | refine wK ?_ | ((with_reducible refine zd ?_); refine zc rfl rfl rfl rfl rfl rfl ?_ ?_ ?_) | ((with_reducible refine zg ?_); exact absurd h0 ‹_›) | refine zi rfl ?_ ?_ <;> intro hc)
    all_goals try (exfalso; omega)
    exact zo (zf rfl rfl rfl) (zv ⟨rfl, trivial⟩)
  · simp only [if_neg h0]
    have e : (IntKind.i64.wrap (IntKind.i64.wrap ((d.k : Int) + 1) - 1)).toNat = d.k := by
      rw [zj (n := (d.k : Int) + 1) (by omega) (by omega), zj (by omega) (by omega)]; omega
    have e2 : IntKind.i64.wrap (IntKind.i64.wrap ((d.k : Int) + 1) - 1) = d.k := by
      rw [zj (n := (d.k : Int) + 1) (by omega) (by omega), zj (by omega) (by omega)]; omega
    have e3 : IntKind.i64.wrap ((d.k : Int) + 1) = d.k + 1 := zj (by omega) (by omega)
    have e4 : ((d.k + 1 : Nat) : Int) = IntKind.i64.wrap ((d.k : Int) + 1) := by rw [e3]; omega
    rw [← e] at hm
    rw [e4]
    refine wI Tryz.func15 ?_
    repeat' (first | refine wC ?_ | refine wK ?_ | ((with_reducible refine zd ?_); refine zc rfl rfl rfl rfl rfl rfl ?_ ?_ ?_) | ((with_reducible refine zg ?_); refine wL hm ?_) | refine zi rfl ?_ ?_ <;> intro hc)
    all_goals try (exfalso; omega)
    all_goals try omega
    exact zo (zf rfl rfl rfl) (zv ⟨rfl, trivial⟩)
def zin (x : Int) : ByteArray := if x = 1 then ⟨#[69]⟩ else if x = 2 then ⟨#[68]⟩ else if x = 3 then ⟨#[66]⟩ else if x = 4 then ⟨#[65]⟩ else if x = 5 then ⟨#[48, 65]⟩ else if x = 6 then ⟨#[77]⟩ else if x = 7 then ⟨#[83]⟩ else if x = 8 then ⟨#[49, 65, 65, 76]⟩ else ⟨#[]⟩
def kl (x : Int) : Int := if x = 1 then 32 else if x = 2 then 32 else if x = 3 then 32 else if x = 4 then 32 else if x = 5 then 16 else if x = 6 then 2 else if x = 7 then 626 else if x = 8 then 6 else 0
theorem to9 {x : Int} (h0 : 0 ≤ x) (h1 : x ≤ 9) : x = 0 ∨ x = 1 ∨ x = 2 ∨ x = 3 ∨ x = 4 ∨ x = 5 ∨ x = 6 ∨ x = 7 ∨ x = 8 ∨ x = 9 := by omega
set_option maxHeartbeats 2000000 in
theorem zfl (c : ByteArray) (n : Int) (h0 : 0 ≤ n) (h1 : n ≤ 1000) : Spec Tryz.prog 109 [.t (.agg [.str c, .int .i64 n])] [] (.t (.int .i64 ((3 - n % 3) % 3))) [] := by
  have e1 : n.tmod 3 = n % 3 := Int.tmod_eq_emod_of_nonneg h0
  have e2 : (3 - n % 3).tmod 3 = (3 - n % 3) % 3 := Int.tmod_eq_emod_of_nonneg (by omega)
  have w1 : IntKind.i64.wrap (3 - n % 3) = 3 - n % 3 := zj (by omega) (by omega)
  refine wI Tryz.func109 ?_
  repeat' (first | refine wC ?_ | refine wK ?_ | fail)
  refine zo (zf rfl rfl ?_) (by simp)
  rw [e1, w1, e2]
theorem zi6 (h : Heap) : RepT h (.agg #[.string ⟨#[]⟩, .int .i64 0]) (.agg [.str ⟨#[]⟩, .int .i64 0]) := ⟨_, rfl, rfl, ⟨_, rfl, rfl, rfl⟩, ⟨_, rfl, rfl, rfl⟩, trivial⟩
def okB (x : Int) : Bool := decide (1 ≤ x ∧ x ≤ 8)
def ldS (n : Int) : Int := (3 - n % 3) % 3
def szF (c : ByteArray) (n : Int) : Int := (c.size : Int) + (n + ldS n) / 3 * 4 - ldS n
def zi2 (x : Int) : Int := if okB x = true then szF (zin x) (kl x) else 0
theorem zfT (x : Int) : (zin x).size ≤ 4 := by unfold zin; (repeat' split) <;> decide
theorem j5 (x : Int) : 0 ≤ kl x ∧ kl x ≤ 626 := by unfold kl; (repeat' split) <;> decide
def zci (c : Nat) : ByteArray := ⟨(Lib.repeatL (⟨#[0]⟩ : ByteArray).data.toList c).toArray⟩
theorem zce (c : Nat) : (zci c).size = c := by
  unfold zci
  have : ∀ c, (Lib.repeatL ([0] : List UInt8) c).length = c := fun c => by
    induction c with
    | zero => rfl
    | succ c ih => simp only [Lib.repeatL, List.length_append, ih, List.length_singleton]; omega
  rw [ByteArray.size, List.size_toArray]
  exact this c
def wZ (x : Int) (r : ByteArray) : ByteArray := zin x ++ (yZ (zci (ldS (kl x)).toNat ++ r)).1.extract (ldS (kl x)).toNat (yZ (zci (ldS (kl x)).toNat ++ r)).1.size
theorem zbg (n : Int) : 0 ≤ ldS n ∧ ldS n ≤ 2 := by unfold ldS; omega
theorem zb7 (s : ByteArray) (hs : s.size ≤ 65536) (h3 : s.size % 3 = 0) : (yZ s).2 = 0 ∧ (yZ s).1.size = 4 * (s.size / 3) := by
  have q3 : (s.size : Int).tmod 3 = ((s.size % 3 : Nat) : Int) := rfl
  unfold yZ
  rw [if_neg (by omega), if_neg (by rw [q3, h3]; simp)]
  refine ⟨rfl, ?_⟩
  show (vE (zd7 (s.size / 3) s)).size = _
  unfold vE
  rw [strOfNums_size, List.length_map, k9]
set_option maxHeartbeats 8000000 in
theorem zde (x : Int) (h0 : 1 ≤ x) (h1 : x ≤ 8) (r : ByteArray) (hr : (r.size : Int) = kl x) : Spec Tryz.prog 86 [.t (.agg [.int .i64 x, .str r])] [] (.tup [.t (.str (wZ x r)), .t (.int .i64 0)]) [] := by
  have hF := zeT
  unfold zir frm at hF
  have hrr := j5 x
  have hL := zfl (zin x) (kl x) hrr.1 (by omega)
  rw [show (3 - kl x % 3) % 3 = ldS (kl x) from rfl] at hL
  have hl := zbg (kl x)
  have hl3 : (ldS (kl x) + kl x) % 3 = 0 := by unfold ldS; omega
  unfold wZ
  have hcs := zfT x
  obtain ⟨d, hd⟩ : ∃ d : Nat, ldS (kl x) = d := ⟨(ldS (kl x)).toNat, by omega⟩
  rw [hd] at hL hl hl3 ⊢
  rw [Int.toNat_natCast]
  have hR := kY ⟨#[0]⟩ d (by omega) (by show 1 * d ≤ _; omega)
  rw [show (⟨(Lib.repeatL (⟨#[0]⟩ : ByteArray).data.toList d).toArray⟩ : ByteArray) = zci d from rfl] at hR
  have hzz := zce d
  generalize zci d = Z at hR hzz ⊢
  have hzs : (Z ++ r).size = d + r.size := by rw [ByteArray.size_append, hzz]
  have hB := zcN (Z ++ r) (by omega)
  obtain ⟨b1, b2⟩ := zb7 (Z ++ r) (by omega) (by omega)
  rw [b1] at hB
  generalize (yZ (Z ++ r)).1 = E at hB b2 ⊢
  have hEx : ∀ a b, (E.extract a b).size ≤ 100000 := fun a b => by rw [ByteArray.size_extract]; omega
  rcases to9 (by omega : 0 ≤ x) (by omega) with rfl | rfl | rfl | rfl | rfl | rfl | rfl | rfl | rfl | rfl
  · omega
  all_goals try (exfalso; omega)
  all_goals
    have hr' : (r.size : Int) = _ := hr
    refine wI Tryz.func86 ?_
    repeat' (first | refine wC ?_ | refine zbr (zT := .agg [.str ⟨#[]⟩, .int .i64 0]) rfl rfl rfl zi6 rfl rfl rfl rfl rfl rfl ?_ | refine wK ?_ | ((with_reducible refine zF ?_); refine zz rfl rfl rfl rfl rfl rfl ?_ ?_) | ((with_reducible refine yF ?_); refine zy rfl rfl ⟨_, rfl⟩ rfl rfl rfl rfl ?_ ?_ ?_ ?_) | ((with_reducible refine zg ?_); first | refine wN (.row (.loc 900)) [(.res 0, .loc 900)] hF ?_ | refine wL hL ?_ | refine wL hR ?_ | refine wL hB ?_) | refine zR rfl ?_ ?_ <;> intro hc)
    all_goals try omega
    all_goals try (exact absurd hr hc)
    · exact Nat.le_trans (Nat.add_le_add hcs (hEx _ _)) (by decide)
    · exact zo (yd rfl rfl rfl rfl rfl) (by simp)
theorem zcb (x : Int) (h0 : 1 ≤ x) (h1 : x ≤ 8) (r : ByteArray) (hr : (r.size : Int) = kl x) : Spec Tryz.prog 64 [.t (.int .i64 x), .t (.str r)] [] (.t (.str (wZ x r))) [] := by
  have hE := zde x h0 h1 r hr
  generalize wZ x r = Y at hE ⊢
  refine wI Tryz.func64 ?_
  repeat' (first | refine wC ?_ | refine wK ?_ | ((with_reducible refine zg ?_); refine wL hE ?_) | fail)
  exact zo (zf rfl rfl rfl) (by simp)
theorem zf8 (x : Int) (h0 : 1 ≤ x) (h1 : x ≤ 8) (r : ByteArray) (hr : (r.size : Int) = kl x) : ((wZ x r).size : Int) = zi2 x := by
  have hl := zbg (kl x)
  have hrr := j5 x
  have hl3 : (ldS (kl x) + kl x) % 3 = 0 := by unfold ldS; omega
  have hzz := zce (ldS (kl x)).toNat
  have hok : okB x = true := decide_eq_true ⟨h0, h1⟩
  unfold wZ zi2 szF
  rw [if_pos hok]
  generalize ldS (kl x) = d at *
  generalize zci d.toNat = Z at *
  have hzs : (Z ++ r).size = d.toNat + r.size := by rw [ByteArray.size_append, hzz]
  obtain ⟨b1, b2⟩ := zb7 (Z ++ r) (by omega) (by omega)
  generalize (yZ (Z ++ r)).1 = E at *
  rw [ByteArray.size_append, ByteArray.size_extract]
  omega
theorem zhi (s : ByteArray) (u : Int) : s ++ vE [T.int .u8 (IntKind.u8.wrap u)] = s ++ byS u := rfl
set_option maxHeartbeats 1000000 in
theorem jl (s : ByteArray) (u : Int) (hs : s.size ≤ 900000) : Spec Tryz.prog 59 [.t (.str s), .t (.int .i64 u)] [] (.t (.str (wF s u))) [] := by
  have z := vx u
  have hS := vq (s ++ byS u) (by rw [ByteArray.size_append]; omega)
  unfold wF
  generalize sha (s ++ byS u) = Y at hS ⊢
  unfold byS at hS z
  refine wI Tryz.func59 ?_
  repeat' (first | refine wC ?_ | refine wK ?_ | ((with_reducible refine zF ?_); refine zz rfl rfl rfl rfl rfl rfl ?_ ?_) | ((with_reducible refine zN ?_); refine zw rfl rfl rfl rfl rfl rfl ?_ ?_) | ((with_reducible refine zg ?_); refine wL hS ?_) | fail)
  all_goals try exact vC _
  all_goals try omega
  exact zo (zf rfl rfl rfl) (by simp)
set_option maxHeartbeats 1000000 in
theorem zdp (p : ByteArray) (hp : p.size ≤ 900000) : Spec Tryz.prog 102 [.t (.str p)] [] (.t (.str (ziV p))) [] := by
  have z : (⟨#[0]⟩ : ByteArray).size = 1 := rfl
  have hS := wb (⟨#[0]⟩ ++ p) (by rw [ByteArray.size_append]; omega)
  unfold ziV
  generalize yB (⟨#[0]⟩ ++ p) = Y at hS ⊢
  refine wI Tryz.func102 ?_
  repeat' (first | refine wC ?_ | refine wK ?_ | ((with_reducible refine zF ?_); refine zz rfl rfl rfl rfl rfl rfl ?_ ?_) | ((with_reducible refine zg ?_); refine wL hS ?_) | fail)
  all_goals try omega
  exact zo (zf rfl rfl rfl) (by simp)
set_option maxHeartbeats 1000000 in
theorem qE (a b : ByteArray) (ha : a.size ≤ 1000) (hb : b.size ≤ 1000) : Spec Tryz.prog 83 [.t (.str a), .t (.str b)] [] (.t (.str (zam a b))) [] := by
  have z : (⟨#[1]⟩ : ByteArray).size = 1 := rfl
  have z2 : (⟨#[1]⟩ ++ a : ByteArray).size = 1 + a.size := by rw [ByteArray.size_append, z]
  have hS := wb (⟨#[1]⟩ ++ a ++ b) (by rw [ByteArray.size_append]; omega)
  unfold zam
  generalize yB (⟨#[1]⟩ ++ a ++ b) = Y at hS ⊢
  refine wI Tryz.func83 ?_
  repeat' (first | refine wC ?_ | refine wK ?_ | ((with_reducible refine zF ?_); refine zz rfl rfl rfl rfl rfl rfl ?_ ?_) | ((with_reducible refine zg ?_); refine wL hS ?_) | fail)
  all_goals try omega
  exact zo (zf rfl rfl rfl) (by simp)
set_option maxHeartbeats 1000000 in
theorem yR (a b : ByteArray) (ha : a.size ≤ 1000) (hb : b.size ≤ 1000) : Spec Tryz.prog 50 [.t (.str a), .t (.str b)] [] (.t (.str (zam a b))) [] := by
  have z : (⟨#[1]⟩ : ByteArray).size = 1 := rfl
  have z2 : (⟨#[1]⟩ ++ a : ByteArray).size = 1 + a.size := by rw [ByteArray.size_append, z]
  have hS := yX (⟨#[1]⟩ ++ a ++ b) (by rw [ByteArray.size_append]; omega)
  unfold zam
  generalize yB (⟨#[1]⟩ ++ a ++ b) = Y at hS ⊢
  refine wI Tryz.func50 ?_
  repeat' (first | refine wC ?_ | refine wK ?_ | ((with_reducible refine zF ?_); refine zz rfl rfl rfl rfl rfl rfl ?_ ?_) | ((with_reducible refine zg ?_); refine wL hS ?_) | fail)
  all_goals try omega
  exact zo (zf rfl rfl rfl) (by simp)
set_option maxHeartbeats 1000000 in
theorem zfC (p : ByteArray) (hp : p.size ≤ 900000) : Spec Tryz.prog 87 [.t (.str p)] [] (.t (.str (ziU p))) [] := by
  have z : (⟨#[2]⟩ : ByteArray).size = 1 := rfl
  have hS := vq (⟨#[2]⟩ ++ p) (by rw [ByteArray.size_append]; omega)
  unfold ziU
  generalize sha (⟨#[2]⟩ ++ p) = Y at hS ⊢
  refine wI Tryz.func87 ?_
  repeat' (first | refine wC ?_ | refine wK ?_ | ((with_reducible refine zF ?_); refine zz rfl rfl rfl rfl rfl rfl ?_ ?_) | ((with_reducible refine zg ?_); refine wL hS ?_) | fail)
  all_goals try omega
  exact zo (zf rfl rfl rfl) (by simp)
set_option maxHeartbeats 1000000 in
theorem zf9 (s : ByteArray) (u : Nat) (hs : s.size ≤ 900000) : Spec Tryz.prog 82 [.t (.str s), .t (.int .i64 (u : Int))] [] (.t (.str (ktL s 0 u))) [] := by
  have h1 := jl s (u : Int) hs
  have z := vU s (u : Int)
  have h2 := zdj (wF s (u : Int)) (by omega)
  have z2 : (jF (wF s (u : Int))).size = 16 := yW _
  have h3 := zdp (jF (wF s (u : Int))) (by omega)
  rw [ktL]
  generalize ziV (jF (wF s (u : Int))) = Y at *
  generalize jF (wF s (u : Int)) = Y2 at *
  generalize wF s (u : Int) = Y3 at *
  refine wI Tryz.func82 ?_
  repeat' (first | refine wC ?_ | refine wK ?_ | ((with_reducible refine zg ?_); first | refine wL h1 ?_ | refine wL h2 ?_ | refine wL h3 ?_) | fail)
  exact zo (zf rfl rfl rfl) (by simp)
theorem xd (s : ByteArray) (k n : Nat) {i : Int} {m : Nat} (h : i = (m : Int)) (hm : m < n) : (zu s k n).getD i.toNat default = ktL s k m := by
  subst h; rw [Int.toNat_natCast]; exact zdL s k n hm
set_option maxHeartbeats 16000000 in
theorem zb5 (s : ByteArray) (hs : s.size ≤ 900000) : Spec Tryz.prog 60 [.t (.str s)] [] (.t (.agg [.sl 1 ((zu s 0 8).map .str), .sl 1 ((zu s 1 4).map .str), .sl 1 ((zu s 2 2).map .str), .sl 1 ((zu s 3 1).map .str)])) [] := by
  have l0 := zE s 0 8
  have l1 := zE s 1 4
  have l2 := zE s 2 2
  refine wI Tryz.func60 ?_
  repeat' (first | refine wC ?_ | refine wK ?_ | fail)
  refine zb (xo (r := .loc 3) 0 (.loc 900) 9 1 rfl rfl rfl rfl rfl) ?_
  refine zb (za [0, 2, 3, 7] [.loc 2, .loc 3, .loc 900] rfl rfl) ?_
  refine ze (fun q env st => ∃ (j : Nat), j ≤ 8 ∧ q = 8 - j ∧ env = EnvL.get [(0, .t (.str s)), (2, .ref (.loc 2) 0 0 0), (3, .ref (.loc 3) 0 0 0), (7, .t (.int .i64 (j : Int)))] ∧
      st = StO.get [(.loc 2, some (.var 82 [.t .nilsl, .t .nilsl, .t .nilsl, .t .nilsl])), (.loc 3, some (.var 82 [.row (.loc 900), .t .nilsl, .t .nilsl, .t .nilsl])), (.loc 900, some (.slt 9 1 ((zu s 0 j).map .str)))])
    ?_ (n := 8) ⟨0, by omega, rfl, rfl, rfl⟩
  rintro q env st ⟨j, hj, rfl, rfl, rfl⟩
  have wj : IntKind.i64.wrap ((j : Int) + 1) = ((j + 1 : Nat) : Int) := by rw [zj (by omega) (by omega)]; omega
  by_cases hlt : j < 8
  · have hL := zf9 s j hs
    have hsuc := y9 s 0 j
    have hln := zE s 0 j
    generalize ktL s 0 j = Y at *
    repeat' (first | refine wC ?_ | (exfalso; omega) | refine wK ?_ | ((with_reducible refine zd ?_); refine zq rfl rfl rfl rfl rfl rfl ?_ ?_ ?_) | ((with_reducible refine zD ?_); refine zn rfl rfl rfl rfl rfl rfl rfl rfl rfl rfl ?_ ?_ ?_) | ((with_reducible refine zg ?_); refine wL hL ?_) | refine zi rfl ?_ ?_ <;> intro hc)
    all_goals try (simp only [List.length_map, List.length_cons, List.length_nil]; omega)
    all_goals try omega
    all_goals exact zr (n' := 8 - (j + 1)) (by omega) ((za [0, 2, 3, 7] [.loc 2, .loc 3, .loc 16] rfl rfl).trans (zk (.loc 16) (.loc 900) rfl rfl rfl rfl)) ⟨j + 1, by omega, rfl, by rw [wj]; rfl, by rw [hsuc, List.map_append, List.map_singleton]; rfl⟩
  · obtain rfl : j = 8 := by omega
    refine zb (zh (id := .loc 900) rfl rfl rfl) ?_
    repeat' (first | refine wC ?_ | refine wK ?_ | fail)
    refine zb (za [0, 2, 3, 5] [.loc 2, .loc 3] rfl rfl) ?_
    refine ze (fun q env st => (q = 3 ∧ env = EnvL.get [(0, .t (.str s)), (2, .ref (.loc 2) 0 0 0), (3, .ref (.loc 3) 0 0 0), (5, .t (.int .i64 1))] ∧ st = StO.get [(.loc 2, some (.var 82 [.t .nilsl, .t .nilsl, .t .nilsl, .t .nilsl])), (.loc 3, some (.var 82 [.t (.sl 1 ((zu s 0 8).map .str)), .t .nilsl, .t .nilsl, .t .nilsl]))]) ∨ (q = 2 ∧ env = EnvL.get [(0, .t (.str s)), (2, .ref (.loc 2) 0 0 0), (3, .ref (.loc 3) 0 0 0), (5, .t (.int .i64 2))] ∧ st = StO.get [(.loc 2, some (.var 82 [.t .nilsl, .t .nilsl, .t .nilsl, .t .nilsl])), (.loc 3, some (.var 82 [.t (.sl 1 ((zu s 0 8).map .str)), .t (.sl 1 ((zu s 1 4).map .str)), .t .nilsl, .t .nilsl]))]) ∨ (q = 1 ∧ env = EnvL.get [(0, .t (.str s)), (2, .ref (.loc 2) 0 0 0), (3, .ref (.loc 3) 0 0 0), (5, .t (.int .i64 3))] ∧ st = StO.get [(.loc 2, some (.var 82 [.t .nilsl, .t .nilsl, .t .nilsl, .t .nilsl])), (.loc 3, some (.var 82 [.t (.sl 1 ((zu s 0 8).map .str)), .t (.sl 1 ((zu s 1 4).map .str)), .t (.sl 1 ((zu s 2 2).map .str)), .t .nilsl]))]) ∨ (q = 0 ∧ env = EnvL.get [(0, .t (.str s)), (2, .ref (.loc 2) 0 0 0), (3, .ref (.loc 3) 0 0 0), (5, .t (.int .i64 4))] ∧ st = StO.get [(.loc 2, some (.var 82 [.t .nilsl, .t .nilsl, .t .nilsl, .t .nilsl])), (.loc 3, some (.var 82 [.t (.sl 1 ((zu s 0 8).map .str)), .t (.sl 1 ((zu s 1 4).map .str)), .t (.sl 1 ((zu s 2 2).map .str)), .t (.sl 1 ((zu s 3 1).map .str))]))]))
      ?_ (n := 3) (.inl ⟨rfl, rfl, rfl⟩)
    rintro q env st (⟨rfl, rfl, rfl⟩ | ⟨rfl, rfl, rfl⟩ | ⟨rfl, rfl, rfl⟩ | ⟨rfl, rfl, rfl⟩)
    · repeat' (first | refine wC ?_ | refine wK ?_ | fail)
      refine zb (xo (r := .loc 3) 1 (.loc 901) 9 1 rfl rfl rfl rfl rfl) ?_
      refine zb (za [0, 2, 3, 5, 6] [.loc 2, .loc 3, .loc 901] rfl rfl) ?_
      refine ze (fun q env st => ∃ (m : Nat), m ≤ 4 ∧ q = 4 - m ∧ env = EnvL.get [(0, .t (.str s)), (2, .ref (.loc 2) 0 0 0), (3, .ref (.loc 3) 0 0 0), (5, .t (.int .i64 1)), (6, .t (.int .i64 ((2 * m : Nat) : Int)))] ∧ st = StO.get [(.loc 2, some (.var 82 [.t .nilsl, .t .nilsl, .t .nilsl, .t .nilsl])), (.loc 3, some (.var 82 [.t (.sl 1 ((zu s 0 8).map .str)), .row (.loc 901), .t .nilsl, .t .nilsl])), (.loc 901, some (.slt 9 1 ((zu s 1 m).map .str)))])
        ?_ (n := 4) ⟨0, by omega, rfl, rfl, rfl⟩
      rintro q env st ⟨m, hm, rfl, rfl, rfl⟩
      have wm : IntKind.i64.wrap (((2 * m : Nat) : Int) + 2) = ((2 * (m + 1) : Nat) : Int) := by rw [zj (by omega) (by omega)]; omega
      have wm1 : IntKind.i64.wrap (((2 * m : Nat) : Int) + 1) = ((2 * m + 1 : Nat) : Int) := by rw [zj (by omega) (by omega)]; omega
      by_cases hlm : m < 4
      · have hI := qE (ktL s 0 (2 * m)) (ktL s 0 (2 * m + 1)) (by rw [zJ]; omega) (by rw [zJ]; omega)
        have hsuc := y9 s 1 m
        have hln := zE s 1 m
        rw [show ktL s 1 m = zam (ktL s 0 (2 * m)) (ktL s 0 (2 * m + 1)) from rfl] at hsuc
        rw [← xd s 0 8 (i := ((2 * m : Nat) : Int)) rfl (by omega), ← xd s 0 8 wm1 (by omega)] at hI hsuc
        generalize zam ((zu s 0 8).getD ((2 * m : Nat) : Int).toNat default) ((zu s 0 8).getD (IntKind.i64.wrap (((2 * m : Nat) : Int) + 1)).toNat default) = Y at *
        repeat' (first | refine wC ?_ | (exfalso; omega) | refine wK ?_ | ((with_reducible refine zd ?_); first | refine zc rfl rfl rfl rfl rfl rfl ?_ ?_ ?_ | refine zq rfl rfl rfl rfl rfl rfl ?_ ?_ ?_) | ((with_reducible refine zD ?_); refine zn rfl rfl rfl rfl rfl rfl rfl rfl rfl rfl ?_ ?_ ?_) | ((with_reducible refine zg ?_); refine wL hI ?_) | refine zi rfl ?_ ?_ <;> intro hc)
        all_goals try (simp only [List.length_map, List.length_cons, List.length_nil]; omega)
        all_goals try omega
        all_goals first | decide | skip
        all_goals exact zr (n' := 4 - (m + 1)) (by omega) ((za [0, 2, 3, 5, 6] [.loc 2, .loc 3, .loc 53] rfl rfl).trans (zk (.loc 53) (.loc 901) rfl rfl rfl rfl)) ⟨m + 1, by omega, rfl, by rw [wm]; rfl, by rw [hsuc, List.map_append, List.map_singleton]; rfl⟩
      · obtain rfl : m = 4 := by omega
        refine zb (zh (id := .loc 901) rfl rfl rfl) ?_
        repeat' (first | refine wC ?_ | refine wK ?_ | ((with_reducible refine zd ?_); refine zq rfl rfl rfl rfl rfl rfl ?_ ?_ ?_))
        all_goals try omega
        all_goals first | decide | skip
        all_goals exact zr (n' := 2) (by omega) (za [0, 2, 3, 5] [.loc 2, .loc 3] rfl rfl) (.inr (.inl ⟨rfl, rfl, rfl⟩))
    · repeat' (first | refine wC ?_ | refine wK ?_ | fail)
      refine zb (xo (r := .loc 3) 2 (.loc 901) 9 1 rfl rfl rfl rfl rfl) ?_
      refine zb (za [0, 2, 3, 5, 6] [.loc 2, .loc 3, .loc 901] rfl rfl) ?_
      refine ze (fun q env st => ∃ (m : Nat), m ≤ 2 ∧ q = 2 - m ∧ env = EnvL.get [(0, .t (.str s)), (2, .ref (.loc 2) 0 0 0), (3, .ref (.loc 3) 0 0 0), (5, .t (.int .i64 2)), (6, .t (.int .i64 ((2 * m : Nat) : Int)))] ∧ st = StO.get [(.loc 2, some (.var 82 [.t .nilsl, .t .nilsl, .t .nilsl, .t .nilsl])), (.loc 3, some (.var 82 [.t (.sl 1 ((zu s 0 8).map .str)), .t (.sl 1 ((zu s 1 4).map .str)), .row (.loc 901), .t .nilsl])), (.loc 901, some (.slt 9 1 ((zu s 2 m).map .str)))])
        ?_ (n := 2) ⟨0, by omega, rfl, rfl, rfl⟩
      rintro q env st ⟨m, hm, rfl, rfl, rfl⟩
      have wm : IntKind.i64.wrap (((2 * m : Nat) : Int) + 2) = ((2 * (m + 1) : Nat) : Int) := by rw [zj (by omega) (by omega)]; omega
      have wm1 : IntKind.i64.wrap (((2 * m : Nat) : Int) + 1) = ((2 * m + 1 : Nat) : Int) := by rw [zj (by omega) (by omega)]; omega
      by_cases hlm : m < 2
      · have hI := qE (ktL s 1 (2 * m)) (ktL s 1 (2 * m + 1)) (by rw [zJ]; omega) (by rw [zJ]; omega)
        have hsuc := y9 s 2 m
        have hln := zE s 2 m
        rw [show ktL s 2 m = zam (ktL s 1 (2 * m)) (ktL s 1 (2 * m + 1)) from rfl] at hsuc
        rw [← xd s 1 4 (i := ((2 * m : Nat) : Int)) rfl (by omega), ← xd s 1 4 wm1 (by omega)] at hI hsuc
        generalize zam ((zu s 1 4).getD ((2 * m : Nat) : Int).toNat default) ((zu s 1 4).getD (IntKind.i64.wrap (((2 * m : Nat) : Int) + 1)).toNat default) = Y at *
        repeat' (first | refine wC ?_ | (exfalso; omega) | refine wK ?_ | ((with_reducible refine zd ?_); first | refine zc rfl rfl rfl rfl rfl rfl ?_ ?_ ?_ | refine zq rfl rfl rfl rfl rfl rfl ?_ ?_ ?_) | ((with_reducible refine zD ?_); refine zn rfl rfl rfl rfl rfl rfl rfl rfl rfl rfl ?_ ?_ ?_) | ((with_reducible refine zg ?_); refine wL hI ?_) | refine zi rfl ?_ ?_ <;> intro hc)
        all_goals try (simp only [List.length_map, List.length_cons, List.length_nil]; omega)
        all_goals try omega
        all_goals first | decide | skip
        all_goals exact zr (n' := 2 - (m + 1)) (by omega) ((za [0, 2, 3, 5, 6] [.loc 2, .loc 3, .loc 53] rfl rfl).trans (zk (.loc 53) (.loc 901) rfl rfl rfl rfl)) ⟨m + 1, by omega, rfl, by rw [wm]; rfl, by rw [hsuc, List.map_append, List.map_singleton]; rfl⟩
      · obtain rfl : m = 2 := by omega
        refine zb (zh (id := .loc 901) rfl rfl rfl) ?_
        repeat' (first | refine wC ?_ | refine wK ?_ | ((with_reducible refine zd ?_); refine zq rfl rfl rfl rfl rfl rfl ?_ ?_ ?_))
        all_goals try omega
        all_goals first | decide | skip
        all_goals exact zr (n' := 1) (by omega) (za [0, 2, 3, 5] [.loc 2, .loc 3] rfl rfl) (.inr (.inr (.inl ⟨rfl, rfl, rfl⟩)))
    · repeat' (first | refine wC ?_ | refine wK ?_ | fail)
      refine zb (xo (r := .loc 3) 3 (.loc 901) 9 1 rfl rfl rfl rfl rfl) ?_
      refine zb (za [0, 2, 3, 5, 6] [.loc 2, .loc 3, .loc 901] rfl rfl) ?_
      refine ze (fun q env st => ∃ (m : Nat), m ≤ 1 ∧ q = 1 - m ∧ env = EnvL.get [(0, .t (.str s)), (2, .ref (.loc 2) 0 0 0), (3, .ref (.loc 3) 0 0 0), (5, .t (.int .i64 3)), (6, .t (.int .i64 ((2 * m : Nat) : Int)))] ∧ st = StO.get [(.loc 2, some (.var 82 [.t .nilsl, .t .nilsl, .t .nilsl, .t .nilsl])), (.loc 3, some (.var 82 [.t (.sl 1 ((zu s 0 8).map .str)), .t (.sl 1 ((zu s 1 4).map .str)), .t (.sl 1 ((zu s 2 2).map .str)), .row (.loc 901)])), (.loc 901, some (.slt 9 1 ((zu s 3 m).map .str)))])
        ?_ (n := 1) ⟨0, by omega, rfl, rfl, rfl⟩
      rintro q env st ⟨m, hm, rfl, rfl, rfl⟩
      have wm : IntKind.i64.wrap (((2 * m : Nat) : Int) + 2) = ((2 * (m + 1) : Nat) : Int) := by rw [zj (by omega) (by omega)]; omega
      have wm1 : IntKind.i64.wrap (((2 * m : Nat) : Int) + 1) = ((2 * m + 1 : Nat) : Int) := by rw [zj (by omega) (by omega)]; omega
      by_cases hlm : m < 1
      · have hI := qE (ktL s 2 (2 * m)) (ktL s 2 (2 * m + 1)) (by rw [zJ]; omega) (by rw [zJ]; omega)
        have hsuc := y9 s 3 m
        have hln := zE s 3 m
        rw [show ktL s 3 m = zam (ktL s 2 (2 * m)) (ktL s 2 (2 * m + 1)) from rfl] at hsuc
        rw [← xd s 2 2 (i := ((2 * m : Nat) : Int)) rfl (by omega), ← xd s 2 2 wm1 (by omega)] at hI hsuc
        generalize zam ((zu s 2 2).getD ((2 * m : Nat) : Int).toNat default) ((zu s 2 2).getD (IntKind.i64.wrap (((2 * m : Nat) : Int) + 1)).toNat default) = Y at *
        repeat' (first | refine wC ?_ | (exfalso; omega) | refine wK ?_ | ((with_reducible refine zd ?_); first | refine zc rfl rfl rfl rfl rfl rfl ?_ ?_ ?_ | refine zq rfl rfl rfl rfl rfl rfl ?_ ?_ ?_) | ((with_reducible refine zD ?_); refine zn rfl rfl rfl rfl rfl rfl rfl rfl rfl rfl ?_ ?_ ?_) | ((with_reducible refine zg ?_); refine wL hI ?_) | refine zi rfl ?_ ?_ <;> intro hc)
        all_goals try (simp only [List.length_map, List.length_cons, List.length_nil]; omega)
        all_goals try omega
        all_goals first | decide | skip
        all_goals exact zr (n' := 1 - (m + 1)) (by omega) ((za [0, 2, 3, 5, 6] [.loc 2, .loc 3, .loc 53] rfl rfl).trans (zk (.loc 53) (.loc 901) rfl rfl rfl rfl)) ⟨m + 1, by omega, rfl, by rw [wm]; rfl, by rw [hsuc, List.map_append, List.map_singleton]; rfl⟩
      · obtain rfl : m = 1 := by omega
        refine zb (zh (id := .loc 901) rfl rfl rfl) ?_
        repeat' (first | refine wC ?_ | refine wK ?_ | ((with_reducible refine zd ?_); refine zq rfl rfl rfl rfl rfl rfl ?_ ?_ ?_))
        all_goals try omega
        all_goals first | decide | skip
        all_goals exact zr (n' := 0) (by omega) (za [0, 2, 3, 5] [.loc 2, .loc 3] rfl rfl) (.inr (.inr (.inr ⟨rfl, rfl, rfl⟩)))
    · repeat' (first | refine wC ?_ | refine wK ?_ | fail)
      exact wD
set_option maxHeartbeats 4000000 in
theorem zal (s : ByteArray) (hs : s.size ≤ 900000) : Spec Tryz.prog 65 [.t (.str s)] [] (.t (.str (ktP s))) [] := by
  have hT := zb5 s hs
  have hz := zJ s 3 0
  have hR := zfC (ktL s 3 0) (by omega)
  have l3 := zE s 3 1
  rw [show ziU (ktL s 3 0) = ktP s from rfl, ← xd s 3 1 (i := 0) (m := 0) rfl (by omega)] at hR
  generalize ktP s = Y at *
  generalize zu s 0 8 = r0 at *
  generalize zu s 1 4 = r1 at *
  generalize zu s 2 2 = r2 at *
  generalize zu s 3 1 = r3 at *
  clear hz
  refine wI Tryz.func65 ?_
  repeat' (first | refine wC ?_ | refine wK ?_ | ((with_reducible refine zd ?_); refine zc rfl rfl rfl rfl rfl rfl ?_ ?_ ?_) | ((with_reducible refine zg ?_); first | refine wL hT ?_ | refine wL hR ?_) | ((with_reducible refine yx ?_); refine qV rfl rfl rfl rfl rfl rfl rfl rfl ?_ ?_ ?_))
  all_goals try (simp only [List.length_map]; omega)
  all_goals try omega
  all_goals try decide
  all_goals try rfl
  all_goals exact zo (zf rfl rfl rfl) (by simp)
set_option maxHeartbeats 2000000 in
theorem jT (s : ByteArray) (hs : s.size ≤ 900000) : Spec Tryz.prog 43 [.t (.str s)] [] (.t (.str (wZ 2 (ktP s)))) [] := by
  have hP := zal s hs
  have hM := zcb 2 (by omega) (by omega) (ktP s) (by rw [ky]; rfl)
  generalize wZ 2 (ktP s) = Z at *
  generalize ktP s = Y at *
  refine wI Tryz.func43 ?_
  repeat' (first | refine wC ?_ | refine wK ?_ | ((with_reducible refine zg ?_); first | refine wL hP ?_ | refine wL hM ?_) | fail)
  exact zo (zf rfl rfl rfl) (by simp)
theorem xk0 : ∀ u : Fin 8, IntKind.i64.wrap ((BitVec.ofInt IntKind.i64.bits ((u.val : Int) / 2 ^ min (Int.toNat 0) IntKind.i64.bits) ^^^ BitVec.ofInt IntKind.i64.bits 1).toNat : Int) = ((u.val / 2 ^ 0 ^^^ 1 : Nat) : Int) ∧ u.val / 2 ^ 0 ^^^ 1 < 8 := by decide
theorem xk1 : ∀ u : Fin 8, IntKind.i64.wrap ((BitVec.ofInt IntKind.i64.bits ((u.val : Int) / 2 ^ min (Int.toNat 1) IntKind.i64.bits) ^^^ BitVec.ofInt IntKind.i64.bits 1).toNat : Int) = ((u.val / 2 ^ 1 ^^^ 1 : Nat) : Int) ∧ u.val / 2 ^ 1 ^^^ 1 < 4 := by decide
theorem xk2 : ∀ u : Fin 8, IntKind.i64.wrap ((BitVec.ofInt IntKind.i64.bits ((u.val : Int) / 2 ^ min (Int.toNat 2) IntKind.i64.bits) ^^^ BitVec.ofInt IntKind.i64.bits 1).toNat : Int) = ((u.val / 2 ^ 2 ^^^ 1 : Nat) : Int) ∧ u.val / 2 ^ 2 ^^^ 1 < 2 := by decide
set_option maxHeartbeats 16000000 in
theorem zcE (s m : ByteArray) (u : Nat) (hu : u < 8) (hs : s.size ≤ 900000) (hm : m.size ≤ 900000) : Spec Tryz.prog 39 [.t (.str s), .t (.int .i64 (u : Int)), .t (.str m)] [] (.tup [.t (.str (ktS s u m)), .t (.int .i64 0)]) [] := by
  have hT := zb5 s hs
  have hD := jl s (u : Int) hs
  have z := vU s (u : Int)
  have hG := zfb (wF s (u : Int)) m (by omega) hm
  have zG := vg (wF s (u : Int)) m
  have zB := vx (u : Int)
  have l0 := zE s 0 8
  have l1 := zE s 1 4
  have l2 := zE s 2 2
  have b0 : ktB s u 0 = ktL s 0 (u / 2 ^ 0 ^^^ 1) := rfl
  have b1 : ktB s u 1 = ktL s 1 (u / 2 ^ 1 ^^^ 1) := rfl
  have b2 : ktB s u 2 = ktL s 2 (u / 2 ^ 2 ^^^ 1) := rfl
  unfold ktS
  generalize zdk (wF s (u : Int)) m = Y at *
  generalize wF s (u : Int) = D at *
  unfold byS at zB ⊢
  refine wI Tryz.func39 ?_
  repeat' (first | refine wC ?_ | (exfalso; omega) | refine wK ?_ | ((with_reducible refine zF ?_); refine zz rfl rfl rfl rfl rfl rfl ?_ ?_) | ((with_reducible refine zN ?_); refine zw rfl rfl rfl rfl rfl rfl ?_ ?_) | ((with_reducible refine zg ?_); first | refine wL hT ?_ | refine wL hD ?_ | refine wL hG ?_) | refine zi rfl ?_ ?_ <;> intro hc)
  all_goals try exact vC _
  all_goals try omega
  obtain ⟨A, hA⟩ : ∃ A : ByteArray, A = vE [T.int .u8 (IntKind.u8.wrap (u : Int))] ++ Y := ⟨_, rfl⟩
  have zA : A.size = 577 := by rw [hA, ByteArray.size_append]; omega
  rw [← hA]
  clear hA hG
  have y0 := zJ s 0 (u / 2 ^ 0 ^^^ 1)
  have y1 := zJ s 1 (u / 2 ^ 1 ^^^ 1)
  have y2 := zJ s 2 (u / 2 ^ 2 ^^^ 1)
  rw [← b0] at y0
  rw [← b1] at y1
  rw [← b2] at y2
  refine zb (za [1, 6, 7, 8, 9, 29] [.loc 9] rfl rfl) ?_
  refine ze (fun q env st => (q = 3 ∧ env = EnvL.get [(1, .t (.int .i64 (u : Int))), (6, .t (.str ⟨#[]⟩)), (7, .t (.int .i64 0)), (8, .t (.str (A))), (9, .ref (.loc 9) 0 0 0), (29, .t (.int .i64 0))] ∧ st = StO.get [(.loc 9, some (.var 82 [.t (.sl 1 ((zu s 0 8).map .str)), .t (.sl 1 ((zu s 1 4).map .str)), .t (.sl 1 ((zu s 2 2).map .str)), .t (.sl 1 ((zu s 3 1).map .str))]))]) ∨ (q = 2 ∧ env = EnvL.get [(1, .t (.int .i64 (u : Int))), (6, .t (.str ⟨#[]⟩)), (7, .t (.int .i64 0)), (8, .t (.str (A ++ ktB s u 0))), (9, .ref (.loc 9) 0 0 0), (29, .t (.int .i64 1))] ∧ st = StO.get [(.loc 9, some (.var 82 [.t (.sl 1 ((zu s 0 8).map .str)), .t (.sl 1 ((zu s 1 4).map .str)), .t (.sl 1 ((zu s 2 2).map .str)), .t (.sl 1 ((zu s 3 1).map .str))]))]) ∨ (q = 1 ∧ env = EnvL.get [(1, .t (.int .i64 (u : Int))), (6, .t (.str ⟨#[]⟩)), (7, .t (.int .i64 0)), (8, .t (.str (A ++ ktB s u 0 ++ ktB s u 1))), (9, .ref (.loc 9) 0 0 0), (29, .t (.int .i64 2))] ∧ st = StO.get [(.loc 9, some (.var 82 [.t (.sl 1 ((zu s 0 8).map .str)), .t (.sl 1 ((zu s 1 4).map .str)), .t (.sl 1 ((zu s 2 2).map .str)), .t (.sl 1 ((zu s 3 1).map .str))]))]) ∨ (q = 0 ∧ env = EnvL.get [(1, .t (.int .i64 (u : Int))), (6, .t (.str ⟨#[]⟩)), (7, .t (.int .i64 0)), (8, .t (.str (A ++ ktB s u 0 ++ ktB s u 1 ++ ktB s u 2))), (9, .ref (.loc 9) 0 0 0), (29, .t (.int .i64 3))] ∧ st = StO.get [(.loc 9, some (.var 82 [.t (.sl 1 ((zu s 0 8).map .str)), .t (.sl 1 ((zu s 1 4).map .str)), .t (.sl 1 ((zu s 2 2).map .str)), .t (.sl 1 ((zu s 3 1).map .str))]))]))
    ?_ (n := 3) (.inl ⟨rfl, rfl, rfl⟩)
  rintro q env st (⟨rfl, rfl, rfl⟩ | ⟨rfl, rfl, rfl⟩ | ⟨rfl, rfl, rfl⟩ | ⟨rfl, rfl, rfl⟩)
  · repeat' (first | refine wC ?_ | refine wK ?_ | ((with_reducible refine zF ?_); refine zz rfl rfl rfl rfl rfl rfl ?_ ?_) | ((with_reducible refine zd ?_); first | refine zc rfl rfl rfl rfl rfl rfl ?_ ?_ ?_ | refine zq rfl rfl rfl rfl rfl rfl ?_ ?_ ?_))
    all_goals first | decide | skip
    all_goals (
      obtain ⟨hx, hxl⟩ := xk0 ⟨u, hu⟩
      simp only at hx hxl
      have hr : (zu s 0 8).getD (IntKind.i64.wrap ((BitVec.ofInt IntKind.i64.bits ((u : Int) / 2 ^ min (Int.toNat 0) IntKind.i64.bits) ^^^ BitVec.ofInt IntKind.i64.bits 1).toNat : Int)).toNat default = ktB s u 0 := by rw [xd s 0 8 hx hxl]; rfl
      first
        | (rw [hx]; exact Int.natCast_nonneg _)
        | (rw [hx, zE]; exact Int.ofNat_lt.2 hxl)
        | (rw [hr]; clear hx hr; (try simp only [ByteArray.size_append]); omega)
        | exact zr (n' := 2) (by omega) (za [1, 6, 7, 8, 9, 29] [.loc 9] rfl rfl) (.inr (.inl ⟨rfl, by rw [hr]; rfl, rfl⟩)))
  · repeat' (first | refine wC ?_ | refine wK ?_ | ((with_reducible refine zF ?_); refine zz rfl rfl rfl rfl rfl rfl ?_ ?_) | ((with_reducible refine zd ?_); first | refine zc rfl rfl rfl rfl rfl rfl ?_ ?_ ?_ | refine zq rfl rfl rfl rfl rfl rfl ?_ ?_ ?_))
    all_goals first | decide | skip
    all_goals (
      obtain ⟨hx, hxl⟩ := xk1 ⟨u, hu⟩
      simp only at hx hxl
      have hr : (zu s 1 4).getD (IntKind.i64.wrap ((BitVec.ofInt IntKind.i64.bits ((u : Int) / 2 ^ min (Int.toNat 1) IntKind.i64.bits) ^^^ BitVec.ofInt IntKind.i64.bits 1).toNat : Int)).toNat default = ktB s u 1 := by rw [xd s 1 4 hx hxl]; rfl
      first
        | (rw [hx]; exact Int.natCast_nonneg _)
        | (rw [hx, zE]; exact Int.ofNat_lt.2 hxl)
        | (rw [hr]; clear hx hr; (try simp only [ByteArray.size_append]); omega)
        | exact zr (n' := 1) (by omega) (za [1, 6, 7, 8, 9, 29] [.loc 9] rfl rfl) (.inr (.inr (.inl ⟨rfl, by rw [hr]; rfl, rfl⟩))))
  · repeat' (first | refine wC ?_ | refine wK ?_ | ((with_reducible refine zF ?_); refine zz rfl rfl rfl rfl rfl rfl ?_ ?_) | ((with_reducible refine zd ?_); first | refine zc rfl rfl rfl rfl rfl rfl ?_ ?_ ?_ | refine zq rfl rfl rfl rfl rfl rfl ?_ ?_ ?_))
    all_goals first | decide | skip
    all_goals (
      obtain ⟨hx, hxl⟩ := xk2 ⟨u, hu⟩
      simp only at hx hxl
      have hr : (zu s 2 2).getD (IntKind.i64.wrap ((BitVec.ofInt IntKind.i64.bits ((u : Int) / 2 ^ min (Int.toNat 2) IntKind.i64.bits) ^^^ BitVec.ofInt IntKind.i64.bits 1).toNat : Int)).toNat default = ktB s u 2 := by rw [xd s 2 2 hx hxl]; rfl
      first
        | (rw [hx]; exact Int.natCast_nonneg _)
        | (rw [hx, zE]; exact Int.ofNat_lt.2 hxl)
        | (rw [hr]; clear hx hr; (try simp only [ByteArray.size_append]); omega)
        | exact zr (n' := 0) (by omega) (za [1, 6, 7, 8, 9, 29] [.loc 9] rfl rfl) (.inr (.inr (.inr ⟨rfl, by rw [hr]; rfl, rfl⟩))))
  · repeat' (first | refine wC ?_ | refine wK ?_ | fail)
    all_goals exact zo (yd rfl rfl rfl rfl rfl) (by simp)
end Go.AL
namespace Go.AL
open Go Go.RowKit
theorem zaP (a b k : Nat) (hb : b < 2 ^ k) (h : a * 2 ^ k + b < 2 ^ 62) : zhk ((a * 2 ^ k : Nat) : Int) (b : Int) = ((a * 2 ^ k + b : Nat) : Int) := by
  have e : (2 : Nat) ^ 62 < 2 ^ 64 := by decide
  unfold zhk w64
  rw [BitVec.ofInt_natCast, BitVec.ofInt_natCast, BitVec.toNat_or, BitVec.toNat_ofNat, BitVec.toNat_ofNat, Nat.mod_eq_of_lt (by omega), Nat.mod_eq_of_lt (by omega), ← Nat.shiftLeft_eq, ← Nat.shiftLeft_add_eq_or_of_lt hb, Nat.shiftLeft_eq]
  have : (2 : Nat) ^ 62 = 4611686018427387904 := by decide
  exact zj (by omega) (by omega)
theorem jk (n : Nat) (h : n < 16777216) : zbq (n : Int) 63 = ((n % 64 : Nat) : Int) := by
  unfold zbq w64
  rw [show (63 : Int) = ((63 : Nat) : Int) from rfl, BitVec.ofInt_natCast, BitVec.ofInt_natCast, BitVec.toNat_and, BitVec.toNat_ofNat, BitVec.toNat_ofNat, Nat.mod_eq_of_lt (by omega), show 63 % 2 ^ 64 = 2 ^ 6 - 1 from rfl, Nat.and_two_pow_sub_one_eq_mod]
  exact zj (by omega) (by omega)
theorem ziK (a b c : Nat) (ha : a < 256) (hb : b < 256) (hc : c < 256) : n24 a b c = ((65536 * a + 256 * b + c : Nat) : Int) := by
  have e1 : (2 : Int) ^ min (16 : Int).toNat 64 = 65536 := by decide
  have e2 : (2 : Int) ^ min (8 : Int).toNat 64 = 256 := by decide
  unfold n24
  rw [e1, e2]
  unfold w64
  rw [zj (n := (a : Int)) (by omega) (by omega), zj (n := (b : Int)) (by omega) (by omega), zj (n := (c : Int)) (by omega) (by omega), zj (n := (a : Int) * 65536) (by omega) (by omega), zj (n := (b : Int) * 256) (by omega) (by omega)]
  have h1 := zaP a (b * 256) 16 (by omega) (by omega)
  rw [show ((a * 2 ^ 16 : Nat) : Int) = (a : Int) * 65536 by omega, show ((b * 256 : Nat) : Int) = (b : Int) * 256 by omega] at h1
  rw [h1]
  have h2 := zaP (a * 256 + b) c 8 (by omega) (by omega)
  rw [show ((a * 2 ^ 16 + b * 256 : Nat) : Int) = (((a * 256 + b) * 2 ^ 8 : Nat) : Int) by omega, h2]
  omega
theorem zgO (m v : Nat) (hv : v < 64) (hm : m < 1048576) : zhk (IntKind.i64.wrap ((m : Int) * 2 ^ min (6 : Int).toNat IntKind.i64.bits)) (v : Int) = ((64 * m + v : Nat) : Int) := by
  rw [show (2 : Int) ^ min (6 : Int).toNat IntKind.i64.bits = 64 by decide, zj (by omega) (by omega)]
  have h := zaP m v 6 (by omega) (by omega)
  rw [show ((m * 2 ^ 6 : Nat) : Int) = (m : Int) * 64 by omega] at h
  rw [h]
  omega
def dgN (N i : Nat) : Nat := N / 2 ^ (18 - 6 * i) % 64
theorem zdQ (N i : Nat) : dgN N i < 64 := Nat.mod_lt _ (by decide)
theorem zhI (N : Nat) (h : N < 16777216) : zhO (N : Int) = [.int .u8 (bAt xY (dgN N 0 : Nat)), .int .u8 (bAt xY (dgN N 1 : Nat)), .int .u8 (bAt xY (dgN N 2 : Nat)), .int .u8 (bAt xY (dgN N 3 : Nat))] := by
  unfold zhO
  rw [show (2 : Int) ^ min (18 : Int).toNat 64 = 262144 by decide, show (2 : Int) ^ min (12 : Int).toNat 64 = 4096 by decide, show (2 : Int) ^ min (6 : Int).toNat 64 = 64 by decide]
  have q0 : (N : Int) / 262144 = ((dgN N 0 : Nat) : Int) := by unfold dgN; simp only [Nat.mul_zero, Nat.sub_zero]; omega
  have q1 : (N : Int) / 4096 = ((N / 4096 : Nat) : Int) := by omega
  have q2 : (N : Int) / 64 = ((N / 64 : Nat) : Int) := by omega
  rw [q0, q1, q2, jk _ (by omega), jk _ (by omega), jk _ h, show dgN N 1 = N / 4096 % 64 from by simp [dgN], show dgN N 2 = N / 64 % 64 from by simp [dgN], show dgN N 3 = N % 64 from by simp [dgN]]
theorem zaw (N i : Nat) (hi : i < 4) (h : N < 16777216) : N / 2 ^ (18 - 6 * i) = 64 * (N / 2 ^ (24 - 6 * i)) + dgN N i := by
  unfold dgN
  have : i = 0 ∨ i = 1 ∨ i = 2 ∨ i = 3 := by omega
  rcases this with rfl | rfl | rfl | rfl <;> simp only [Nat.mul_zero, Nat.sub_zero, Nat.mul_one, Nat.reduceMul, Nat.reduceSub, Nat.reducePow] <;> omega
def alC (v : Nat) : UInt8 := xY.data.toList.getD v 0
theorem zh2 (v : Nat) : bAt xY (v : Int) = ((alC v).toNat : Int) := rfl
def qdB (N : Nat) : List UInt8 := [alC (dgN N 0), alC (dgN N 1), alC (dgN N 2), alC (dgN N 3)]
def zcQ : Nat → List UInt8 → List UInt8
  | k + 1, a :: b :: c :: l => qdB (65536 * a.toNat + 256 * b.toNat + c.toNat) ++ zcQ k l
  | _, _ => []
def N3 (l : List UInt8) (j : Nat) : Nat := 65536 * (l.getD (3 * j) 0).toNat + 256 * (l.getD (3 * j + 1) 0).toNat + (l.getD (3 * j + 2) 0).toNat
theorem ziY (l : List UInt8) (j : Nat) : N3 l j < 16777216 := by
  unfold N3
  have h1 := (l.getD (3 * j) 0).toNat_lt
  have h2 := (l.getD (3 * j + 1) 0).toNat_lt
  have h3 := (l.getD (3 * j + 2) 0).toNat_lt
  omega
theorem zf4 : ∀ (k j i : Nat) (l : List UInt8), l.length = 3 * k → j < k → i < 4 → (zcQ k l).getD (4 * j + i) 0 = alC (dgN (N3 l j) i)
  | 0, j, i, l, _, hj, _ => by omega
  | k + 1, j, i, a :: b :: c :: l, hl, hj, hi => by
    rw [zcQ]
    cases j with
    | zero =>
      have : i = 0 ∨ i = 1 ∨ i = 2 ∨ i = 3 := by omega
      rcases this with rfl | rfl | rfl | rfl <;> rfl
    | succ j =>
      have ih := zf4 k j i l (by simp only [List.length_cons] at hl; omega) (by omega) hi
      have e : N3 (a :: b :: c :: l) (j + 1) = N3 l j := by
        unfold N3
        rw [show 3 * (j + 1) = 3 * j + 1 + 1 + 1 by omega]
        rfl
      rw [e, ← ih, show 4 * (j + 1) + i = (qdB (65536 * a.toNat + 256 * b.toNat + c.toNat)).length + (4 * j + i) by simp [qdB]; omega]
      rw [List.getD_eq_getElem?_getD, List.getD_eq_getElem?_getD, List.getElem?_append_right (by omega), Nat.add_sub_cancel_left]
  | k + 1, j, i, [], hl, _, _ => by simp at hl
  | k + 1, j, i, [_], hl, _, _ => by simp at hl; omega
  | k + 1, j, i, [_, _], hl, _, _ => by simp at hl; omega
theorem kq : ∀ (k : Nat) (l : List UInt8), l.length = 3 * k → (zcQ k l).length = 4 * k
  | 0, l, _ => by cases l <;> rfl
  | k + 1, a :: b :: c :: l, hl => by
    rw [zcQ, List.length_append, kq k l (by simp only [List.length_cons] at hl; omega)]
    simp [qdB]; omega
  | k + 1, [], hl => by simp at hl
  | k + 1, [_], hl => by simp at hl; omega
  | k + 1, [_, _], hl => by simp at hl; omega
theorem zgZ (l : List UInt8) (j : Nat) : N3 l j / 65536 = (l.getD (3 * j) 0).toNat ∧ N3 l j / 256 % 256 = (l.getD (3 * j + 1) 0).toNat ∧ N3 l j % 256 = (l.getD (3 * j + 2) 0).toNat := by
  unfold N3
  have h1 := (l.getD (3 * j) 0).toNat_lt
  have h2 := (l.getD (3 * j + 1) 0).toNat_lt
  have h3 := (l.getD (3 * j + 2) 0).toNat_lt
  omega
end Go.AL
namespace Go.AL
open Go Go.Proofs Go.RowKit
theorem zgL : ∀ u : Fin 64, ∀ v : Fin 64, u.val < v.val → bAt xY (u.val : Int) ≠ bAt xY (v.val : Int) := by decide +kernel
set_option maxHeartbeats 4000000 in
theorem vu (v : Nat) (hv : v < 64) : Spec Tryz.prog 112 [.t (.int .u8 (bAt xY (v : Int)))] [] (.tup [.t (.int .i64 (v : Int)), .t (.bool true)]) [] := by
  have hne : ∀ u : Nat, u < v → bAt xY (u : Int) ≠ bAt xY (v : Int) := fun u h => zgL ⟨u, by omega⟩ ⟨v, hv⟩ h
  have hz : (xY.size : Int) = 64 := ze0
  generalize hcv : bAt xY (v : Int) = c at *
  refine wI Tryz.func112 ?_
  repeat' (first | refine wC ?_ | refine wK ?_ | fail)
  refine zb (za [0, 2, 3, 5] [] rfl rfl) ?_
  refine ze (fun q env st => ∃ (j : Nat), j ≤ v ∧ q = v - j ∧ env = EnvL.get [(0, .t (.int .u8 c)), (2, .t (.int .i64 0)), (3, .t (.bool false)), (5, .t (.int .i64 (j : Int)))] ∧ st = StO.get [])
    ?_ (n := v) ⟨0, by omega, rfl, rfl, rfl⟩
  rintro q env st ⟨j, hj, rfl, rfl, rfl⟩
  have wj : IntKind.i64.wrap ((j : Int) + 1) = ((j + 1 : Nat) : Int) := by rw [zj (by omega) (by omega)]; omega
  by_cases hlt : j < v
  · have hn := hne j hlt
    repeat' (first | refine wC ?_ | (exfalso; omega) | exact absurd ‹_› hn | refine wK ?_ | ((with_reducible refine yx ?_); refine zK rfl rfl rfl rfl rfl rfl ?_ ?_ ?_) | refine zi rfl ?_ ?_ <;> intro hc)
    all_goals try (show ((j : Nat) : Int) < (xY.size : Int); omega)
    all_goals try omega
    all_goals first | exact absurd ‹_› hn | exact zr (n' := v - (j + 1)) (by omega) (za [0, 2, 3, 5] [] rfl rfl) ⟨j + 1, by omega, rfl, by rw [wj]; rfl, rfl⟩
  · obtain rfl : j = v := by omega
    repeat' (first | refine wC ?_ | (exfalso; omega) | exact absurd hcv ‹_› | refine wK ?_ | ((with_reducible refine yx ?_); refine zK rfl rfl rfl rfl rfl rfl ?_ ?_ ?_) | refine zi rfl ?_ ?_ <;> intro hc)
    all_goals try (show ((j : Nat) : Int) < (xY.size : Int); omega)
    all_goals try omega
    all_goals first | exact absurd hcv ‹_› | exact zo (kF rfl (AVLE.refl _) (AVLE.refl _)) (by simp)
theorem zgn : ∀ (k : Nat) (l : List UInt8), l.length = 3 * k → zd7 k (ofL l) = (zcQ k l).map u8T
  | 0, l, h => by cases l <;> rfl
  | k + 1, a :: b :: c :: l, h => by
    have ha := a.toNat_lt
    have hb := b.toNat_lt
    have hc := c.toNat_lt
    rw [zd7, zcQ, List.map_append]
    have e1 : bAt (ofL (a :: b :: c :: l)) 0 = (a.toNat : Int) := rfl
    have e2 : bAt (ofL (a :: b :: c :: l)) 1 = (b.toNat : Int) := rfl
    have e3 : bAt (ofL (a :: b :: c :: l)) 2 = (c.toNat : Int) := rfl
    rw [e1, e2, e3, ziK _ _ _ (by omega) (by omega) (by omega), zhI _ (by omega), yM, xV]
    rw [show ((a :: b :: c :: l).drop 3).take ((a :: b :: c :: l).length - 3) = l from by simp]
    rw [zgn k l (by simp only [List.length_cons] at h; omega)]
    rfl
  | k + 1, [], h => by simp at h
  | k + 1, [_], h => by simp at h; omega
  | k + 1, [_, _], h => by simp at h; omega
theorem zi4 (l : List UInt8) (j : Nat) (h : 3 * j + 2 < l.length) : l.take (3 * (j + 1)) = l.take (3 * j) ++ [l.getD (3 * j) 0, l.getD (3 * j + 1) 0, l.getD (3 * j + 2) 0] := by
  rw [show 3 * (j + 1) = 3 * j + 1 + 1 + 1 by omega, List.take_add_one, List.take_add_one, List.take_add_one, List.getElem?_eq_getElem (by omega), List.getElem?_eq_getElem (by omega), List.getElem?_eq_getElem (by omega)]
  simp only [List.getD_eq_getElem?_getD]
  rw [List.getElem?_eq_getElem (by omega), List.getElem?_eq_getElem (by omega), List.getElem?_eq_getElem (by omega)]
  simp only [Option.toList_some, Option.getD_some, List.append_assoc, List.cons_append, List.nil_append]
set_option maxHeartbeats 16000000 in
theorem zfk (k : Nat) (l : List UInt8) (hl : l.length = 3 * k) (hk : k ≤ 1000) : Spec Tryz.prog 92 [.t (.str (ofL (zcQ k l)))] [] (.tup [.t (.str (ofL l)), .t (.int .i64 0)]) [] := by
  obtain ⟨E, hE⟩ : ∃ E, E = ofL (zcQ k l) := ⟨_, rfl⟩
  have hz : E.size = 4 * k := by rw [hE, xV, kq k l hl]
  have hat : ∀ j i : Nat, j < k → i < 4 → bAt E ((4 * j + i : Nat) : Int) = bAt xY ((dgN (N3 l j) i : Nat) : Int) := fun j i hj hi => by
    rw [hE, zh2, ← zf4 k j i l hl hj hi]; rfl
  have hmod : (E.size : Int).tmod 4 = 0 := by rw [hz, Int.tmod_eq_emod_of_nonneg (by omega)]; omega
  rw [← hE]
  clear hE
  refine wI Tryz.func92 ?_
  repeat' (first | refine wC ?_ | (exfalso; omega) | refine wK ?_ | refine zi rfl ?_ ?_ <;> intro hc | refine zR rfl ?_ ?_ <;> intro hc)
  all_goals first | omega | exact absurd hmod ‹_› | skip
  refine zb (z8 4 (.loc 900) 5 1 rfl rfl rfl) ?_
  refine zb (za [0, 2, 3, 4, 5] [.loc 900] rfl rfl) ?_
  refine ze (fun q env st => ∃ (j : Nat), j ≤ k ∧ q = k - j ∧ env = EnvL.get [(0, .t (.str E)), (2, .t (.str ⟨#[]⟩)), (3, .t (.int .i64 0)), (4, .row (.loc 900)), (5, .t (.int .i64 ((4 * j : Nat) : Int)))] ∧ st = StO.get [(.loc 900, some (.slt 5 1 ((l.take (3 * j)).map u8T)))])
    ?_ (n := k) ⟨0, by omega, rfl, rfl, rfl⟩
  rintro q env st ⟨j, hj, rfl, rfl, rfl⟩
  have wj : IntKind.i64.wrap (((4 * j : Nat) : Int) + 4) = ((4 * (j + 1) : Nat) : Int) := by rw [zj (by omega) (by omega)]; omega
  by_cases hlt : j < k
  · have hN := ziY l j
    have b1 := zgZ l j
    have s0 := zaw (N3 l j) 0 (by omega) hN
    have s1 := zaw (N3 l j) 1 (by omega) hN
    have s2 := zaw (N3 l j) 2 (by omega) hN
    have s3 := zaw (N3 l j) 3 (by omega) hN
    have d0 := zdQ (N3 l j) 0
    have d1 := zdQ (N3 l j) 1
    have d2 := zdQ (N3 l j) 2
    have d3 := zdQ (N3 l j) 3
    have v0 := vu _ d0
    have v1 := vu _ d1
    have v2 := vu _ d2
    have v3 := vu _ d3
    have w0 : IntKind.i64.wrap (((4 * j : Nat) : Int) + 0) = ((4 * j + 0 : Nat) : Int) := by rw [zj (by omega) (by omega)]; omega
    have w1 : IntKind.i64.wrap (((4 * j : Nat) : Int) + 1) = ((4 * j + 1 : Nat) : Int) := by rw [zj (by omega) (by omega)]; omega
    have w2 : IntKind.i64.wrap (((4 * j : Nat) : Int) + 2) = ((4 * j + 2 : Nat) : Int) := by rw [zj (by omega) (by omega)]; omega
    have w3 : IntKind.i64.wrap (((4 * j : Nat) : Int) + 3) = ((4 * j + 3 : Nat) : Int) := by rw [zj (by omega) (by omega)]; omega
    rw [← hat j 0 hlt (by omega), ← w0] at v0
    rw [← hat j 1 hlt (by omega), ← w1] at v1
    rw [← hat j 2 hlt (by omega), ← w2] at v2
    rw [← hat j 3 hlt (by omega), ← w3] at v3
    simp only [Nat.mul_zero, Nat.sub_zero, Nat.mul_one, Nat.reduceMul, Nat.reduceSub, Nat.reducePow, Nat.div_one] at s0 s1 s2 s3
    rw [show N3 l j / 16777216 = 0 by omega] at s0
    have t3 := zi4 l j (by omega)
    generalize dgN (N3 l j) 0 = D0 at *
    generalize dgN (N3 l j) 1 = D1 at *
    generalize dgN (N3 l j) 2 = D2 at *
    generalize dgN (N3 l j) 3 = D3 at *
    generalize l.getD (3 * j) 0 = B0 at *
    generalize l.getD (3 * j + 1) 0 = B1 at *
    generalize l.getD (3 * j + 2) 0 = B2 at *
    generalize N3 l j = N at *
    have g0 : 4 * j + 0 < E.size := by omega
    have g1 : 4 * j + 1 < E.size := by omega
    have g2 : 4 * j + 2 < E.size := by omega
    have g3 : 4 * j + 3 < E.size := by omega
    obtain ⟨m1, hm1⟩ : ∃ m, m = N / 262144 := ⟨_, rfl⟩
    obtain ⟨m2, hm2⟩ : ∃ m, m = N / 4096 := ⟨_, rfl⟩
    obtain ⟨m3, hm3⟩ : ∃ m, m = N / 64 := ⟨_, rfl⟩
    have x0 := zgO 0 D0 d0 (by omega)
    have x1 := zgO m1 D1 d1 (by omega)
    have x2 := zgO m2 D2 d2 (by omega)
    have x3 := zgO m3 D3 d3 (by omega)
    rw [show 64 * 0 + D0 = m1 by omega] at x0
    rw [show 64 * m1 + D1 = m2 by omega] at x1
    rw [show 64 * m2 + D2 = m3 by omega] at x2
    rw [show 64 * m3 + D3 = N by omega] at x3
    have z0 : IntKind.i64.wrap ((BitVec.ofInt IntKind.i64.bits (IntKind.i64.wrap (0 * 2 ^ min (Int.toNat 6) IntKind.i64.bits)) ||| BitVec.ofInt IntKind.i64.bits (D0 : Int)).toNat : Int) = (m1 : Int) := x0
    have z1 : IntKind.i64.wrap ((BitVec.ofInt IntKind.i64.bits (IntKind.i64.wrap ((m1 : Int) * 2 ^ min (Int.toNat 6) IntKind.i64.bits)) ||| BitVec.ofInt IntKind.i64.bits (D1 : Int)).toNat : Int) = (m2 : Int) := x1
    have z2 : IntKind.i64.wrap ((BitVec.ofInt IntKind.i64.bits (IntKind.i64.wrap ((m2 : Int) * 2 ^ min (Int.toNat 6) IntKind.i64.bits)) ||| BitVec.ofInt IntKind.i64.bits (D2 : Int)).toNat : Int) = (m3 : Int) := x2
    have z3 : IntKind.i64.wrap ((BitVec.ofInt IntKind.i64.bits (IntKind.i64.wrap ((m3 : Int) * 2 ^ min (Int.toNat 6) IntKind.i64.bits)) ||| BitVec.ofInt IntKind.i64.bits (D3 : Int)).toNat : Int) = (N : Int) := x3
    clear x0 x1 x2 x3
    have y0 : IntKind.u8.wrap ((N : Int) / 2 ^ min (Int.toNat 16) IntKind.i64.bits) = (B0.toNat : Int) := by
      rw [show (2 : Int) ^ min (Int.toNat 16) IntKind.i64.bits = 65536 by decide]
      show ((N : Int) / 65536).emod 256 = _
      have := B0.toNat_lt
      have h1 := b1.1
      have : (N : Int) / 65536 = ((N / 65536 : Nat) : Int) := by omega
      rw [this, h1]
      exact Int.emod_eq_of_lt (by omega) (by omega)
    have y1 : IntKind.u8.wrap ((N : Int) / 2 ^ min (Int.toNat 8) IntKind.i64.bits) = (B1.toNat : Int) := by
      rw [show (2 : Int) ^ min (Int.toNat 8) IntKind.i64.bits = 256 by decide]
      show ((N : Int) / 256).emod 256 = _
      have h1 := b1.2.1
      have : ((N : Int) / 256) % 256 = ((N / 256 % 256 : Nat) : Int) := by omega
      exact this.trans (by rw [h1])
    have y2 : IntKind.u8.wrap (N : Int) = (B2.toNat : Int) := by
      show (N : Int).emod 256 = _
      have h1 := b1.2.2
      have : (N : Int) % 256 = ((N % 256 : Nat) : Int) := by omega
      exact this.trans (by rw [h1])
    clear b1 s0 s1 s2 s3 hat hm1 hm2 hm3
    repeat' (first | refine wC ?_ | (exfalso; omega) | refine wK ?_ | refine zi rfl ?_ ?_ <;> intro hc)
    refine zb (za [0, 2, 3, 4, 5, 6, 25] [.loc 900] rfl rfl) ?_
    refine ze (fun q env st => (q = 4 ∧ env = EnvL.get [(0, .t (.str E)), (2, .t (.str ⟨#[]⟩)), (3, .t (.int .i64 0)), (4, .row (.loc 900)), (5, .t (.int .i64 ((4 * j : Nat) : Int))), (6, .t (.int .i64 0)), (25, .t (.int .i64 0))] ∧ st = StO.get [(.loc 900, some (.slt 5 1 ((l.take (3 * j)).map u8T)))]) ∨ (q = 3 ∧ env = EnvL.get [(0, .t (.str E)), (2, .t (.str ⟨#[]⟩)), (3, .t (.int .i64 0)), (4, .row (.loc 900)), (5, .t (.int .i64 ((4 * j : Nat) : Int))), (6, .t (.int .i64 (m1 : Int))), (25, .t (.int .i64 1))] ∧ st = StO.get [(.loc 900, some (.slt 5 1 ((l.take (3 * j)).map u8T)))]) ∨ (q = 2 ∧ env = EnvL.get [(0, .t (.str E)), (2, .t (.str ⟨#[]⟩)), (3, .t (.int .i64 0)), (4, .row (.loc 900)), (5, .t (.int .i64 ((4 * j : Nat) : Int))), (6, .t (.int .i64 (m2 : Int))), (25, .t (.int .i64 2))] ∧ st = StO.get [(.loc 900, some (.slt 5 1 ((l.take (3 * j)).map u8T)))]) ∨ (q = 1 ∧ env = EnvL.get [(0, .t (.str E)), (2, .t (.str ⟨#[]⟩)), (3, .t (.int .i64 0)), (4, .row (.loc 900)), (5, .t (.int .i64 ((4 * j : Nat) : Int))), (6, .t (.int .i64 (m3 : Int))), (25, .t (.int .i64 3))] ∧ st = StO.get [(.loc 900, some (.slt 5 1 ((l.take (3 * j)).map u8T)))]) ∨ (q = 0 ∧ env = EnvL.get [(0, .t (.str E)), (2, .t (.str ⟨#[]⟩)), (3, .t (.int .i64 0)), (4, .row (.loc 900)), (5, .t (.int .i64 ((4 * j : Nat) : Int))), (6, .t (.int .i64 (N : Int))), (25, .t (.int .i64 4))] ∧ st = StO.get [(.loc 900, some (.slt 5 1 ((l.take (3 * j)).map u8T)))]))
      ?_ (n := 4) (.inl ⟨rfl, rfl, rfl⟩)
    rintro q env st (⟨rfl, rfl, rfl⟩ | ⟨rfl, rfl, rfl⟩ | ⟨rfl, rfl, rfl⟩ | ⟨rfl, rfl, rfl⟩ | ⟨rfl, rfl, rfl⟩)
    · repeat' (first | refine wC ?_ | refine wK ?_ | ((with_reducible refine yx ?_); refine zK rfl rfl rfl rfl rfl rfl ?_ ?_ ?_) | ((with_reducible refine zg ?_); refine wL v0 ?_) | fail)
      all_goals try (rw [w0]; omega)
      all_goals try (simp only [w0]; omega)
      all_goals exact zr (n' := 3) (by omega) (za [0, 2, 3, 4, 5, 6, 25] [.loc 900] rfl rfl) (.inr (.inl ⟨rfl, by rw [z0]; rfl, rfl⟩))
    · repeat' (first | refine wC ?_ | refine wK ?_ | ((with_reducible refine yx ?_); refine zK rfl rfl rfl rfl rfl rfl ?_ ?_ ?_) | ((with_reducible refine zg ?_); refine wL v1 ?_) | fail)
      all_goals try (rw [w1]; omega)
      all_goals try (simp only [w1]; omega)
      all_goals exact zr (n' := 2) (by omega) (za [0, 2, 3, 4, 5, 6, 25] [.loc 900] rfl rfl) (.inr (.inr (.inl ⟨rfl, by rw [z1]; rfl, rfl⟩)))
    · repeat' (first | refine wC ?_ | refine wK ?_ | ((with_reducible refine yx ?_); refine zK rfl rfl rfl rfl rfl rfl ?_ ?_ ?_) | ((with_reducible refine zg ?_); refine wL v2 ?_) | fail)
      all_goals try (rw [w2]; omega)
      all_goals try (simp only [w2]; omega)
      all_goals exact zr (n' := 1) (by omega) (za [0, 2, 3, 4, 5, 6, 25] [.loc 900] rfl rfl) (.inr (.inr (.inr (.inl ⟨rfl, by rw [z2]; rfl, rfl⟩))))
    · repeat' (first | refine wC ?_ | refine wK ?_ | ((with_reducible refine yx ?_); refine zK rfl rfl rfl rfl rfl rfl ?_ ?_ ?_) | ((with_reducible refine zg ?_); refine wL v3 ?_) | fail)
      all_goals try (rw [w3]; omega)
      all_goals try (simp only [w3]; omega)
      all_goals exact zr (n' := 0) (by omega) (za [0, 2, 3, 4, 5, 6, 25] [.loc 900] rfl rfl) (.inr (.inr (.inr (.inr ⟨rfl, by rw [z3]; rfl, rfl⟩))))
    · repeat' (first | refine wC ?_ | refine wK ?_ | ((with_reducible refine zD ?_); refine zn rfl rfl rfl rfl rfl rfl rfl rfl rfl rfl ?_ ?_ ?_))
      all_goals try (simp only [List.length_map, List.length_cons, List.length_nil, List.length_take]; omega)
      all_goals exact zr (n' := k - (j + 1)) (by omega) ((za [0, 2, 3, 4, 5] [.loc 54] rfl rfl).trans (zk (.loc 54) (.loc 900) rfl rfl rfl rfl)) ⟨j + 1, by omega, rfl, by rw [wj]; rfl, by rw [t3, List.map_append, y0, y1, y2]; rfl⟩
  · obtain rfl : j = k := by omega
    rw [← hl, List.take_length]
    repeat' (first | refine wC ?_ | (exfalso; omega) | refine wK ?_ | ((with_reducible refine zN ?_); refine zw rfl rfl rfl rfl rfl rfl ?_ ?_) | refine zi rfl ?_ ?_ <;> intro hc)
    all_goals first | exact kr l | omega | exact zo (yd rfl rfl rfl (congrArg T.str (qc l)) rfl) (by simp)
set_option maxHeartbeats 2000000 in
theorem jg : Spec Tryz.prog 110 [.t (.int .i64 2)] [] (.t (.int .i64 32)) [] := by
  refine wI Tryz.func110 ?_
  repeat' (first | refine wC ?_ | refine zW (es := [0, 32, 32, 32, 32, 16, 2, 626, 6].map (T.int .i64)) rfl rfl rfl rfl rfl rfl ?_ | refine wK ?_ | ((with_reducible refine zd ?_); refine zc rfl rfl rfl rfl rfl rfl ?_ ?_ ?_))
  all_goals first | decide | rfl | exact zo (zf rfl rfl rfl) (by simp)
set_option maxHeartbeats 2000000 in
theorem js : Spec Tryz.prog 89 [.t (.int .i64 1)] [] (.tup [.t (.str ⟨#[69]⟩), .t (.bool true)]) [] := by
  refine wI Tryz.func89 ?_
  repeat' (first | refine wC ?_ | refine zW (es := ([⟨#[]⟩, ⟨#[69]⟩, ⟨#[68]⟩, ⟨#[66]⟩, ⟨#[65]⟩, ⟨#[48, 65]⟩, ⟨#[77]⟩, ⟨#[83]⟩, ⟨#[49, 65, 65, 76]⟩] : List ByteArray).map T.str) rfl rfl rfl rfl rfl rfl ?_ | refine wK ?_ | ((with_reducible refine zd ?_); refine zc rfl rfl rfl rfl rfl rfl ?_ ?_ ?_))
  all_goals first | decide | rfl | exact zo (yd rfl rfl rfl rfl rfl) (by simp)
set_option maxHeartbeats 2000000 in
theorem vQ : Spec Tryz.prog 89 [.t (.int .i64 2)] [] (.tup [.t (.str ⟨#[68]⟩), .t (.bool true)]) [] := by
  refine wI Tryz.func89 ?_
  repeat' (first | refine wC ?_ | refine zW (es := ([⟨#[]⟩, ⟨#[69]⟩, ⟨#[68]⟩, ⟨#[66]⟩, ⟨#[65]⟩, ⟨#[48, 65]⟩, ⟨#[77]⟩, ⟨#[83]⟩, ⟨#[49, 65, 65, 76]⟩] : List ByteArray).map T.str) rfl rfl rfl rfl rfl rfl ?_ | refine wK ?_ | ((with_reducible refine zd ?_); refine zc rfl rfl rfl rfl rfl rfl ?_ ?_ ?_))
  all_goals first | decide | rfl | exact zo (yd rfl rfl rfl rfl rfl) (by simp)
set_option maxHeartbeats 2000000 in
theorem qA : Spec Tryz.prog 91 [.t (.int .i64 2)] [] (.t (.int .i64 1)) [] := by
  have hR := jg
  refine wI Tryz.func91 ?_
  repeat' (first | refine wC ?_ | refine wK ?_ | ((with_reducible refine zg ?_); refine wL hR ?_) | fail)
  all_goals first | decide | rfl | exact zo (zf rfl rfl (congrArg (T.int .i64) (by decide))) (by simp)
set_option maxHeartbeats 2000000 in
theorem ze4 : Spec Tryz.prog 90 [.t (.int .i64 2)] [] (.t (.int .i64 44)) [] := by
  have hR := jg
  have hL := qA
  have hC := vQ
  refine wI Tryz.func90 ?_
  repeat' (first | refine wC ?_ | refine wK ?_ | ((with_reducible refine zg ?_); first | refine wL hR ?_ | refine wL hL ?_ | refine wL hC ?_) | fail)
  all_goals first | decide | rfl | exact zo (zf rfl rfl (congrArg (T.int .i64) (by decide))) (by simp)
theorem zdR (r : ByteArray) (hr : r.size = 32) : ∃ X : ByteArray, wZ 2 r = ⟨#[68]⟩ ++ X ∧ X.size = 43 ∧ ⟨#[65]⟩ ++ X = ofL (zcQ 11 (0 :: r.data.toList)) := by
  have hl : r.data.toList.length = 32 := by rw [Array.length_toList]; exact hr
  have hl2 : (0 :: r.data.toList).length = 3 * 11 := by simp [hl]
  have hs : zci 1 ++ r = ofL (0 :: r.data.toList) := by
    apply ByteArray.ext
    show (zci 1 ++ r).data = (0 :: r.data.toList).toArray
    rw [ByteArray.data_append]
    show #[0] ++ r.data = _
    apply Array.ext'
    simp
  have hz : (zci 1 ++ r).size = 33 := by rw [hs, xV, hl2]
  have hb : (yZ (zci 1 ++ r)).1 = ofL (zcQ 11 (0 :: r.data.toList)) := by
    have q3 : ((zci 1 ++ r).size : Int).tmod 3 = (((zci 1 ++ r).size % 3 : Nat) : Int) := rfl
    unfold yZ
    rw [if_neg (by omega), if_neg (by rw [q3, hz]; decide)]
    show vE (zd7 ((zci 1 ++ r).size / 3) (zci 1 ++ r)) = _
    rw [hz, hs, zgn 11 _ hl2, qc]
  have hE : (ofL (zcQ 11 (0 :: r.data.toList))).size = 44 := by rw [xV, kq 11 _ hl2]
  obtain ⟨t, ht⟩ : ∃ t, zcQ 11 (0 :: r.data.toList) = 65 :: t := by
    obtain ⟨b, c, l, he⟩ : ∃ b c l, r.data.toList = b :: c :: l := by
      match hrl : r.data.toList, hl with
      | b :: c :: l, _ => exact ⟨b, c, l, rfl⟩
    rw [he]
    refine ⟨[alC (dgN (65536 * (0 : UInt8).toNat + 256 * b.toNat + c.toNat) 1), alC (dgN (65536 * (0 : UInt8).toNat + 256 * b.toNat + c.toNat) 2), alC (dgN (65536 * (0 : UInt8).toNat + 256 * b.toNat + c.toNat) 3)] ++ zcQ 10 l, ?_⟩
    have hb := b.toNat_lt
    have hc := c.toNat_lt
    have h0 : dgN (65536 * (0 : UInt8).toNat + 256 * b.toNat + c.toNat) 0 = 0 := by
      unfold dgN
      simp only [Nat.mul_zero, Nat.sub_zero, Nat.reducePow]
      have : (0 : UInt8).toNat = 0 := rfl
      omega
    rw [zcQ, qdB, h0]
    rfl
  have htl : t.length = 43 := by
    have := kq 11 _ hl2
    rw [ht, List.length_cons] at this
    omega
  refine ⟨ofL t, ?_, by rw [xV]; exact htl, ?_⟩
  · unfold wZ
    rw [show (ldS (kl 2)).toNat = 1 from by decide, hb, yM, hE, ht]
    rw [show ((65 :: t).drop 1).take (44 - 1) = t from by rw [List.drop_one, List.tail_cons, List.take_of_length_le (by omega)]]
    rfl
  · rw [ht]
    apply ByteArray.ext
    rw [ByteArray.data_append]
    show #[65] ++ t.toArray = (65 :: t).toArray
    apply Array.ext'
    simp
set_option maxHeartbeats 16000000 in
theorem zgk (r : ByteArray) (hr : r.size = 32) : Spec Tryz.prog 68 [.t (.str (wZ 2 r))] [] (.tup [.t (.agg [.int .i64 2, .str r]), .t (.int .i64 44), .t (.int .i64 0)]) [] := by
  obtain ⟨X, hX, hXz, hXE⟩ := zdR r hr
  have hD := zfk 11 (0 :: r.data.toList) (by simp; exact hr) (by omega)
  rw [← hXE] at hD
  clear hXE
  rw [hX]
  obtain ⟨T, hT⟩ : ∃ T, T = (⟨#[68]⟩ ++ X : ByteArray) := ⟨_, rfl⟩
  have hTz : T.size = 44 := by rw [hT, ByteArray.size_append, hXz]; rfl
  have hT0 : T.extract 0 1 = ⟨#[68]⟩ := by rw [hT]; exact ByteArray.extract_append_eq_left (by rfl)
  have hT1 : T.extract 1 44 = X := by rw [hT]; exact ByteArray.extract_append_eq_right (by rfl) (by rw [hXz]; rfl)
  rw [← hT]
  clear hX hT
  obtain ⟨R, hR⟩ : ∃ R, R = ofL (0 :: r.data.toList) := ⟨_, rfl⟩
  rw [← hR] at hD
  have hRz : R.size = 33 := by rw [hR, xV]; simp; exact hr
  have hR0 : R.extract 0 1 = ⟨#[0]⟩ := by rw [hR, yM]; rfl
  have hR1 : R.extract 1 R.size = r := by
    rw [hRz, hR, yM, show ((0 :: r.data.toList).drop 1).take (33 - 1) = r.data.toList from by rw [List.drop_one, List.tail_cons, List.take_of_length_le (by rw [Array.length_toList]; show r.size ≤ _; omega)]]
    exact wW r
  clear hR
  have z69 : (⟨#[69]⟩ : ByteArray).size = 1 := rfl
  have z68 : (⟨#[68]⟩ : ByteArray).size = 1 := rfl
  have z65 : (⟨#[65, 65]⟩ : ByteArray).size = 2 := rfl
  have z00 : (⟨#[0, 0]⟩ : ByteArray).size = 2 := rfl
  have n69 : ¬ T.extract 0 ((⟨#[69]⟩ : ByteArray).size : Int).toNat = ⟨#[69]⟩ := by
    show ¬ T.extract 0 1 = _
    rw [hT0]; intro h; exact absurd (congrArg (fun b => bAt b 0) h) (by decide)
  have p68 : T.extract 0 ((⟨#[68]⟩ : ByteArray).size : Int).toNat = ⟨#[68]⟩ := hT0
  have hAA : (⟨#[65, 65]⟩ : ByteArray).extract 0 (1 : Int).toNat ++ T.extract ((⟨#[68]⟩ : ByteArray).size : Int).toNat (44 : Int).toNat = ⟨#[65]⟩ ++ X := by
    rw [show T.extract ((⟨#[68]⟩ : ByteArray).size : Int).toNat (44 : Int).toNat = X from hT1, show (⟨#[65, 65]⟩ : ByteArray).extract 0 (1 : Int).toNat = ⟨#[65]⟩ from (yM [65, 65] 0 1).trans rfl]
  rw [← hAA] at hD
  have hAz : ((⟨#[65, 65]⟩ : ByteArray).extract (0 : Int).toNat (1 : Int).toNat).size = 1 := by rw [ByteArray.size_extract]; rfl
  have hTz2 : (T.extract ((⟨#[68]⟩ : ByteArray).size : Int).toNat (44 : Int).toNat).size = 43 := by rw [show T.extract ((⟨#[68]⟩ : ByteArray).size : Int).toNat (44 : Int).toNat = X from hT1]; exact hXz
  have p0 : R.extract 0 (1 : Int).toNat = (⟨#[0, 0]⟩ : ByteArray).extract 0 (1 : Int).toNat := by
    rw [show (⟨#[0, 0]⟩ : ByteArray).extract 0 (1 : Int).toNat = ⟨#[0]⟩ from (yM [0, 0] 0 1).trans rfl]; exact hR0
  rw [← hR1]
  clear hAA hR0 hT0 hT1 hR1
  have c1 := js
  have c2 := vQ
  have hSz := ze4
  have hL := qA
  refine wI Tryz.func68 ?_
  repeat' (first | refine wC ?_ | refine wK ?_ | fail)
  refine zb (za [0, 2, 3, 4, 5] [.loc 2] rfl rfl) ?_
  refine ze (fun q env st => (q = 1 ∧ env = EnvL.get [(0, .t (.str T)), (2, .ref (.loc 2) 0 0 0), (3, .t (.int .i64 0)), (4, .t (.int .i64 0)), (5, .t (.int .i64 1))] ∧ st = StO.get [(.loc 2, some (.var 87 [.t (.int .i64 0), .t (.str ⟨#[]⟩)]))]) ∨ (q = 0 ∧ env = EnvL.get [(0, .t (.str T)), (2, .ref (.loc 2) 0 0 0), (3, .t (.int .i64 0)), (4, .t (.int .i64 0)), (5, .t (.int .i64 2))] ∧ st = StO.get [(.loc 2, some (.var 87 [.t (.int .i64 0), .t (.str ⟨#[]⟩)]))]))
    ?_ (n := 1) (.inl ⟨rfl, rfl, rfl⟩)
  rintro q env st (⟨rfl, rfl, rfl⟩ | ⟨rfl, rfl, rfl⟩)
  · repeat' (first | refine wC ?_ | (exfalso; omega) | exact absurd ‹_› n69 | refine wK ?_ | ((with_reducible refine yF ?_); refine zy rfl rfl rfl ⟨_, rfl⟩ rfl rfl rfl ?_ ?_ ?_ ?_) | ((with_reducible refine zg ?_); refine wL c1 ?_) | refine zR rfl ?_ ?_ <;> intro hc | refine yi rfl ?_ ?_ <;> intro hc)
    all_goals try omega
    all_goals exact zr (n' := 0) (by omega) (za [0, 2, 3, 4, 5] [.loc 2] rfl rfl) (.inr ⟨rfl, rfl, rfl⟩)
  · repeat' (first | refine wC ?_ | (exfalso; omega) | exact absurd p68 ‹_› | exact absurd p0 ‹_› | refine wK ?_ | ((with_reducible refine zF ?_); refine zz rfl rfl rfl rfl rfl rfl ?_ ?_) | ((with_reducible refine yF ?_); first | refine zy rfl rfl rfl ⟨_, rfl⟩ rfl rfl rfl ?_ ?_ ?_ ?_ | refine zy rfl rfl ⟨_, rfl⟩ rfl rfl rfl rfl ?_ ?_ ?_ ?_ | refine zy rfl rfl ⟨_, rfl⟩ ⟨_, rfl⟩ rfl rfl rfl ?_ ?_ ?_ ?_) | ((with_reducible refine zg ?_); first | refine wL c2 ?_ | refine wL hSz ?_ | refine wL hL ?_ | refine wL hD ?_) | refine zi rfl ?_ ?_ <;> intro hc | refine zR rfl ?_ ?_ <;> intro hc | refine yi rfl ?_ ?_ <;> intro hc)
    all_goals try omega
    all_goals (refine zo ?_ (zv trivial); refine jM rfl rfl rfl inferInstance rfl inferInstance rfl ?_ ?_ ?_; exact TLe.av wT; exact AVLE.refl _; exact AVLE.refl _)
set_option maxHeartbeats 2000000 in
theorem zem (r : ByteArray) (hr : r.size = 32) : Spec Tryz.prog 47 [.t (.int .i64 2), .t (.str (wZ 2 r))] [] (.tup [.t (.str r), .t (.int .i64 0)]) [] := by
  have hD := zgk r hr
  have hz : (wZ 2 r).size = 44 := by
    have := zf8 2 (by omega) (by omega) r (by rw [hr]; rfl)
    have h2 : zi2 2 = 44 := by decide
    omega
  generalize wZ 2 r = T at *
  refine wI Tryz.func47 ?_
  repeat' (first | refine wC ?_ | (exfalso; omega) | refine wK ?_ | ((with_reducible refine zg ?_); refine wL hD ?_) | refine zR rfl ?_ ?_ <;> intro hc)
  all_goals first | omega | exact zo (yd rfl rfl rfl rfl rfl) (by simp)
theorem zav (a b : List UInt8) : ofL a ++ ofL b = ofL (a ++ b) := by
  apply ByteArray.ext
  rw [ByteArray.data_append]
  show a.toArray ++ b.toArray = (a ++ b).toArray
  simp
theorem zaH (P B Q : ByteArray) (i j : Nat) (hi : P.size = i) (hj : P.size + B.size = j) : (P ++ B ++ Q).extract i j = B := by
  obtain ⟨p, rfl⟩ : ∃ p, P = ofL p := ⟨_, (wW P).symm⟩
  obtain ⟨b, rfl⟩ : ∃ b, B = ofL b := ⟨_, (wW B).symm⟩
  obtain ⟨q, rfl⟩ : ∃ q, Q = ofL q := ⟨_, (wW Q).symm⟩
  subst hi; subst hj
  rw [zav, zav, yM]
  simp only [xV, Nat.add_sub_cancel_left, List.append_assoc, List.drop_left, List.take_left]
theorem zhq (P Q : ByteArray) (h : 0 < P.size) : bAt (P ++ Q) 0 = bAt P 0 := by
  obtain ⟨p, rfl⟩ : ∃ p, P = ofL p := ⟨_, (wW P).symm⟩
  obtain ⟨q, rfl⟩ : ∃ q, Q = ofL q := ⟨_, (wW Q).symm⟩
  rw [zav]
  cases p with
  | nil => exact absurd h (by decide)
  | cons x p => rfl
theorem zfG (s m : ByteArray) (u : Nat) (hu : u < 8) : bAt (ktS s u m) 0 = (u : Int) ∧ (ktS s u m).extract 1 577 = zdk (wF s (u : Int)) m ∧ (ktS s u m).extract 577 593 = ktB s u 0 ∧ (ktS s u m).extract 593 609 = ktB s u 1 ∧ (ktS s u m).extract 609 625 = ktB s u 2 := by
  have z1 := vg (wF s (u : Int)) m
  have z0 := vx (u : Int)
  have y0 : (ktB s u 0).size = 16 := zJ ..
  have y1 : (ktB s u 1).size = 16 := zJ ..
  have y2 : (ktB s u 2).size = 16 := zJ ..
  have hb : bAt (byS (u : Int)) 0 = (u : Int) := by
    have : u = 0 ∨ u = 1 ∨ u = 2 ∨ u = 3 ∨ u = 4 ∨ u = 5 ∨ u = 6 ∨ u = 7 := by omega
    rcases this with rfl | rfl | rfl | rfl | rfl | rfl | rfl | rfl <;> rfl
  unfold ktS
  generalize zdk (wF s (u : Int)) m = A at *
  generalize ktB s u 0 = B0 at *
  generalize ktB s u 1 = B1 at *
  generalize ktB s u 2 = B2 at *
  generalize byS (u : Int) = Z at *
  have s1 : (Z ++ A).size = 577 := by rw [ByteArray.size_append]; omega
  have s2 : (Z ++ A ++ B0).size = 593 := by rw [ByteArray.size_append]; omega
  have s3 : (Z ++ A ++ B0 ++ B1).size = 609 := by rw [ByteArray.size_append]; omega
  refine ⟨?_, ?_, ?_, ?_, ?_⟩
  · rw [ByteArray.append_assoc, ByteArray.append_assoc, ByteArray.append_assoc, zhq _ _ (by omega)]; exact hb
  · rw [ByteArray.append_assoc, ByteArray.append_assoc]; exact zaH _ _ _ _ _ z0 (by omega)
  · rw [ByteArray.append_assoc (a := Z ++ A ++ B0)]; exact zaH _ _ _ _ _ s1 (by omega)
  · exact zaH _ _ _ _ _ s2 (by omega)
  · have := zaH (Z ++ A ++ B0 ++ B1) B2 ByteArray.empty 609 625 s3 (by omega)
    rwa [ByteArray.append_empty] at this
theorem zhm (u k : Nat) (kk : Int) (hkk : kk = k) (hu : u < 8) (hk : k < 3) : IntKind.u8.wrap ↑(BitVec.ofInt IntKind.u8.bits ((u : Int) / 2 ^ min (IntKind.u64.wrap kk).toNat IntKind.u8.bits) &&& BitVec.ofInt IntKind.u8.bits 1).toNat = ((u / 2 ^ k % 2 : Nat) : Int) := by
  have h : ∀ k : Fin 3, ∀ u : Fin 8, IntKind.u8.wrap ↑(BitVec.ofInt IntKind.u8.bits (((u.val : Nat) : Int) / 2 ^ min (IntKind.u64.wrap ((k.val : Nat) : Int)).toNat IntKind.u8.bits) &&& BitVec.ofInt IntKind.u8.bits 1).toNat = ((u.val / 2 ^ k.val % 2 : Nat) : Int) := by decide
  subst hkk; exact h ⟨k, hk⟩ ⟨u, hu⟩
set_option maxRecDepth 2000 in
set_option maxHeartbeats 16000000 in
theorem zdm (s m : ByteArray) (u : Nat) (hu : u < 8) (hs : s.size ≤ 900000) (hm : m.size ≤ 900000) : Spec Tryz.prog 28 [.t (.str (wZ 2 (ktP s))), .t (.str m), .t (.str (ktS s u m))] [] (.t (.bool true)) [] := by
  have hO := zem (ktP s) (ky s)
  obtain ⟨p0, p1, p2, p3, p4⟩ := zfG s m u hu
  have hz := zg4 s u m
  have zG := vg (wF s (u : Int)) m
  have hR := zaz m (zdk (wF s (u : Int)) m) hm (by omega)
  have eR : ziT m (zdk (wF s (u : Int)) m) = jF (wF s (u : Int)) := by unfold ziT; rw [if_pos zG, zh1]
  rw [eR, ← p1] at hR
  generalize wZ 2 (ktP s) = K at *
  generalize hG : ktS s u m = G at *
  have zP : (jF (wF s (u : Int))).size = 16 := yW _
  have hL := yX (⟨#[0]⟩ ++ jF (wF s (u : Int))) (by rw [ByteArray.size_append, zP]; decide)
  rw [show yB (⟨#[0]⟩ ++ jF (wF s (u : Int))) = ktL s 0 u from rfl] at hL
  generalize jF (wF s (u : Int)) = PB at *
  have z0 : (⟨#[0]⟩ : ByteArray).size = 1 := rfl
  refine wI Tryz.func28 ?_
  repeat' (first | refine wC ?_ | (exfalso; omega) | refine wK ?_ | ((with_reducible refine zF ?_); refine zz rfl rfl rfl rfl rfl rfl ?_ ?_) | ((with_reducible refine yx ?_); refine zK rfl rfl rfl rfl rfl rfl ?_ ?_ ?_) | ((with_reducible refine yF ?_); refine zy rfl rfl ⟨_, rfl⟩ ⟨_, rfl⟩ rfl rfl rfl ?_ ?_ ?_ ?_) | ((with_reducible refine zg ?_); first | refine wL hO ?_ | refine wL hR ?_ | refine wL hL ?_) | refine zi rfl ?_ ?_ <;> intro hc | refine kR rfl ?_ ?_ <;> intro hc)
  all_goals try omega
  obtain ⟨e9, he9⟩ : ∃ e : Int, e = 577 := ⟨_, rfl⟩
  refine zb (za [2, 6, 7, 9, 12, 50] [] rfl rfl) ?_
  refine ze (fun q env st => (q = 3 ∧ env = EnvL.get [(2, .t (.str G)), (6, .t (.bool false)), (7, .t (.str (ktP s))), (9, .t (.int .i64 e9)), (12, .t (.str (ktL s 0 (u / 2 ^ 0)))), (50, .t (.int .i64 0))] ∧ st = StO.get []) ∨ (q = 2 ∧ env = EnvL.get [(2, .t (.str G)), (6, .t (.bool false)), (7, .t (.str (ktP s))), (9, .t (.int .i64 e9)), (12, .t (.str (ktL s 1 (u / 2 ^ 1)))), (50, .t (.int .i64 1))] ∧ st = StO.get []) ∨ (q = 1 ∧ env = EnvL.get [(2, .t (.str G)), (6, .t (.bool false)), (7, .t (.str (ktP s))), (9, .t (.int .i64 e9)), (12, .t (.str (ktL s 2 (u / 2 ^ 2)))), (50, .t (.int .i64 2))] ∧ st = StO.get []) ∨ (q = 0 ∧ env = EnvL.get [(2, .t (.str G)), (6, .t (.bool false)), (7, .t (.str (ktP s))), (9, .t (.int .i64 e9)), (12, .t (.str (ktL s 3 (u / 2 ^ 3)))), (50, .t (.int .i64 3))] ∧ st = StO.get []))
    ?_ (n := 3) (.inl ⟨rfl, by rw [he9, show u / 2 ^ 0 = u from Nat.div_one u]; rfl, rfl⟩)
  rintro q env st (⟨rfl, rfl, rfl⟩ | ⟨rfl, rfl, rfl⟩ | ⟨rfl, rfl, rfl⟩ | ⟨rfl, rfl, rfl⟩)
  · have hup := zhy s u 0 hu (by omega)
    have e1 := zJ s 0 (u / 2 ^ 0)
    have e2 : (ktB s u 0).size = 16 := zJ ..
    have hn1 := yR (ktL s 0 (u / 2 ^ 0)) (ktB s u 0) (by omega) (by omega)
    have hn2 := yR (ktB s u 0) (ktL s 0 (u / 2 ^ 0)) (by omega) (by omega)
    have hlo : IntKind.i64.wrap (e9 + IntKind.i64.wrap (0 * 16)) = 577 := by rw [he9]; decide
    have hhi : IntKind.i64.wrap (e9 + IntKind.i64.wrap (IntKind.i64.wrap (0 + 1) * 16)) = 593 := by rw [he9]; decide
    have hy : G.extract (IntKind.i64.wrap (e9 + IntKind.i64.wrap (0 * 16))).toNat (IntKind.i64.wrap (e9 + IntKind.i64.wrap (IntKind.i64.wrap (0 + 1) * 16))).toNat = ktB s u 0 := by
      rw [hlo, hhi]; exact p2
    clear he9
    have hcond := zhm u 0 0 rfl hu (by omega)
    rw [← p0] at hcond
    repeat' (first | refine wC ?_ | refine wK ?_ | ((with_reducible refine yx ?_); refine zK rfl rfl rfl rfl rfl rfl ?_ ?_ ?_) | ((with_reducible refine yF ?_); refine zy rfl rfl ⟨_, rfl⟩ ⟨_, rfl⟩ rfl rfl rfl ?_ ?_ ?_ ?_) | refine zi rfl ?_ ?_ <;> intro hc)
    · rw [hlo]; decide
    · rw [hlo, hhi]; decide
    · rw [hhi]; omega
    · omega
    · omega
    · rw [show _ = _ from hcond] at hc
      have hb : u / 2 ^ 0 % 2 = 0 := by omega
      rw [if_pos hb] at hup
      rw [← hup] at hn1
      rw [hy]
      clear hn2 hb hc hcond hlo hhi hy
      repeat' (first | refine wC ?_ | refine wK ?_ | ((with_reducible refine zg ?_); refine wL hn1 ?_) | fail)
      exact zr (n' := 2) (by omega) (za [2, 6, 7, 9, 12, 50] [] rfl rfl) (.inr (.inl ⟨rfl, rfl, rfl⟩))
    · rw [show _ = _ from hcond] at hc
      have hb : ¬ u / 2 ^ 0 % 2 = 0 := by omega
      rw [if_neg hb] at hup
      rw [← hup] at hn2
      rw [hy]
      clear hn1 hb hc hcond hlo hhi hy
      repeat' (first | refine wC ?_ | refine wK ?_ | ((with_reducible refine zg ?_); refine wL hn2 ?_) | fail)
      exact zr (n' := 2) (by omega) (za [2, 6, 7, 9, 12, 50] [] rfl rfl) (.inr (.inl ⟨rfl, rfl, rfl⟩))
  · have hup := zhy s u 1 hu (by omega)
    have e1 := zJ s 1 (u / 2 ^ 1)
    have e2 : (ktB s u 1).size = 16 := zJ ..
    have hn1 := yR (ktL s 1 (u / 2 ^ 1)) (ktB s u 1) (by omega) (by omega)
    have hn2 := yR (ktB s u 1) (ktL s 1 (u / 2 ^ 1)) (by omega) (by omega)
    have hlo : IntKind.i64.wrap (e9 + IntKind.i64.wrap (1 * 16)) = 593 := by rw [he9]; decide
    have hhi : IntKind.i64.wrap (e9 + IntKind.i64.wrap (IntKind.i64.wrap (1 + 1) * 16)) = 609 := by rw [he9]; decide
    have hy : G.extract (IntKind.i64.wrap (e9 + IntKind.i64.wrap (1 * 16))).toNat (IntKind.i64.wrap (e9 + IntKind.i64.wrap (IntKind.i64.wrap (1 + 1) * 16))).toNat = ktB s u 1 := by
      rw [hlo, hhi]; exact p3
    clear he9
    have hcond := zhm u 1 1 rfl hu (by omega)
    rw [← p0] at hcond
    repeat' (first | refine wC ?_ | refine wK ?_ | ((with_reducible refine yx ?_); refine zK rfl rfl rfl rfl rfl rfl ?_ ?_ ?_) | ((with_reducible refine yF ?_); refine zy rfl rfl ⟨_, rfl⟩ ⟨_, rfl⟩ rfl rfl rfl ?_ ?_ ?_ ?_) | refine zi rfl ?_ ?_ <;> intro hc)
    · rw [hlo]; decide
    · rw [hlo, hhi]; decide
    · rw [hhi]; omega
    · omega
    · omega
    · rw [show _ = _ from hcond] at hc
      have hb : u / 2 ^ 1 % 2 = 0 := by omega
      rw [if_pos hb] at hup
      rw [← hup] at hn1
      rw [hy]
      clear hn2 hb hc hcond hlo hhi hy
      repeat' (first | refine wC ?_ | refine wK ?_ | ((with_reducible refine zg ?_); refine wL hn1 ?_) | fail)
      exact zr (n' := 1) (by omega) (za [2, 6, 7, 9, 12, 50] [] rfl rfl) (.inr (.inr (.inl ⟨rfl, rfl, rfl⟩)))
    · rw [show _ = _ from hcond] at hc
      have hb : ¬ u / 2 ^ 1 % 2 = 0 := by omega
      rw [if_neg hb] at hup
      rw [← hup] at hn2
      rw [hy]
      clear hn1 hb hc hcond hlo hhi hy
      repeat' (first | refine wC ?_ | refine wK ?_ | ((with_reducible refine zg ?_); refine wL hn2 ?_) | fail)
      exact zr (n' := 1) (by omega) (za [2, 6, 7, 9, 12, 50] [] rfl rfl) (.inr (.inr (.inl ⟨rfl, rfl, rfl⟩)))
  · have hup := zhy s u 2 hu (by omega)
    have e1 := zJ s 2 (u / 2 ^ 2)
    have e2 : (ktB s u 2).size = 16 := zJ ..
    have hn1 := yR (ktL s 2 (u / 2 ^ 2)) (ktB s u 2) (by omega) (by omega)
    have hn2 := yR (ktB s u 2) (ktL s 2 (u / 2 ^ 2)) (by omega) (by omega)
    have hlo : IntKind.i64.wrap (e9 + IntKind.i64.wrap (2 * 16)) = 609 := by rw [he9]; decide
    have hhi : IntKind.i64.wrap (e9 + IntKind.i64.wrap (IntKind.i64.wrap (2 + 1) * 16)) = 625 := by rw [he9]; decide
    have hy : G.extract (IntKind.i64.wrap (e9 + IntKind.i64.wrap (2 * 16))).toNat (IntKind.i64.wrap (e9 + IntKind.i64.wrap (IntKind.i64.wrap (2 + 1) * 16))).toNat = ktB s u 2 := by
      rw [hlo, hhi]; exact p4
    clear he9
    have hcond := zhm u 2 2 rfl hu (by omega)
    rw [← p0] at hcond
    repeat' (first | refine wC ?_ | refine wK ?_ | ((with_reducible refine yx ?_); refine zK rfl rfl rfl rfl rfl rfl ?_ ?_ ?_) | ((with_reducible refine yF ?_); refine zy rfl rfl ⟨_, rfl⟩ ⟨_, rfl⟩ rfl rfl rfl ?_ ?_ ?_ ?_) | refine zi rfl ?_ ?_ <;> intro hc)
    · rw [hlo]; decide
    · rw [hlo, hhi]; decide
    · rw [hhi]; omega
    · omega
    · omega
    · rw [show _ = _ from hcond] at hc
      have hb : u / 2 ^ 2 % 2 = 0 := by omega
      rw [if_pos hb] at hup
      rw [← hup] at hn1
      rw [hy]
      clear hn2 hb hc hcond hlo hhi hy
      repeat' (first | refine wC ?_ | refine wK ?_ | ((with_reducible refine zg ?_); refine wL hn1 ?_) | fail)
      exact zr (n' := 0) (by omega) (za [2, 6, 7, 9, 12, 50] [] rfl rfl) (.inr (.inr (.inr ⟨rfl, rfl, rfl⟩)))
    · rw [show _ = _ from hcond] at hc
      have hb : ¬ u / 2 ^ 2 % 2 = 0 := by omega
      rw [if_neg hb] at hup
      rw [← hup] at hn2
      rw [hy]
      clear hn1 hb hc hcond hlo hhi hy
      repeat' (first | refine wC ?_ | refine wK ?_ | ((with_reducible refine zg ?_); refine wL hn2 ?_) | fail)
      exact zr (n' := 0) (by omega) (za [2, 6, 7, 9, 12, 50] [] rfl rfl) (.inr (.inr (.inr ⟨rfl, rfl, rfl⟩)))
  · have hT := xv (⟨#[2]⟩ ++ ktL s 3 (u / 2 ^ 3)) (by rw [ByteArray.size_append, zJ]; decide)
    have e3 := zJ s 3 (u / 2 ^ 3)
    have z2 : (⟨#[2]⟩ : ByteArray).size = 1 := rfl
    have hu0 : u / 2 ^ 3 = 0 := by omega
    rw [hu0] at hT e3 ⊢
    rw [show sha (⟨#[2]⟩ ++ ktL s 3 0) = ktP s from rfl] at hT
    repeat' (first | refine wC ?_ | refine wK ?_ | ((with_reducible refine zF ?_); refine zz rfl rfl rfl rfl rfl rfl ?_ ?_) | ((with_reducible refine zg ?_); refine wL hT ?_) | fail)
    all_goals try omega
    all_goals exact zo (zf rfl rfl (congrArg T.bool (decide_eq_true rfl))) (by simp)
end Go.AL
namespace Go.AL
open Go
section
open Go.RowKit
end
end Go.AL
namespace Go.AL
def ziX (c : Nat) : Nat := c ||| 32
def hv (c : Nat) : Option Nat := if 48 ≤ c ∧ c ≤ 57 then some (c - 48) else if 97 ≤ ziX c ∧ ziX c ≤ 102 then some (ziX c - 87) else none
theorem kS {α : Type} [Inhabited α] : ∀ (L : List α) (j : Nat), j < L.length → L.drop j = L.getD j default :: L.drop (j + 1)
  | [], j, h => by simp at h
  | x :: L, 0, h => by simp
  | x :: L, j + 1, h => by simpa using kS L j (by simpa using h)
end Go.AL
namespace Go.AL
open Go
structure Fr where
  n : Int
  d : Int
  deriving Inhabited, DecidableEq
def Fr.toT (f : Fr) : T := .agg [.int .i64 f.n, .int .i64 f.d]
def zjb (a b : Int) : Int := (Nat.gcd a.toNat b.toNat : Int)
def Fr.wt (f : Fr) : Bool := decide (1 ≤ f.d ∧ f.d ≤ 100 ∧ 0 ≤ f.n ∧ f.n ≤ f.d) && decide (zjb f.n f.d = 1)
def zgr {α : Type} (p : α → Bool) : List α → Nat → Int
  | [], _ => -1
  | x :: l, k => if p x then (k : Int) else zgr p l (k + 1)
theorem zfJ {α : Type} (p : α → Bool) : ∀ (l : List α) (k : Nat), decide (0 ≤ zgr p l k) = l.any p
  | [], k => by simp [zgr]
  | x :: l, k => by
    rw [zgr, List.any_cons]
    cases hp : p x with
    | true => simp
    | false => simp [zfJ p l (k + 1)]
def frs (l : List Fr) : T := .sl 2 (l.map Fr.toT)
structure Th where
  n : Int
  w : List (List Fr)
  deriving Inhabited
def Th.toT (t : Th) : T := .agg [.int .i64 t.n, .sl 1 (t.w.map frs)]
def ziQ : List (List Fr) → Nat
  | [] => 0
  | l :: r => l.length + ziQ r
structure Th.Fit (t : Th) : Prop where
  few : ziQ t.w ≤ 8
  lists : t.w.length ≤ 8
  wt : ∀ l ∈ t.w, ∀ f ∈ l, f.wt = true
  one : t.n = 0 ∨ t.w.length = 0
end Go.AL
namespace Go.AL
open Go Go.Proofs Go.RowKit
def vaT (s : ByteArray) (p c n : Int) (l : List Int) : T := .agg [.str s, .int .i64 p, .int .i64 c, .int .i64 n, .sl 1 (l.map (T.int .i64))]
def sdS (s : ByteArray) (g i : Int) : ByteArray := sha (qK [s, xz g, xz i])
theorem wO (s : ByteArray) (g i : Int) : (sdS s g i).size = 32 := xc _
set_option maxHeartbeats 1000000 in
theorem j7 (n : Int) : Spec Tryz.prog 30 [.t (.int .i64 n)] [] (.t (.str (xz n))) [] := by
  refine wI Tryz.func30 ?_
  repeat' (first | refine wC ?_ | refine wK ?_ | ((with_reducible refine zN ?_); refine zw rfl rfl rfl rfl rfl rfl ?_ ?_))
  all_goals try exact jw _ _ _ _
  exact zo (zf rfl rfl rfl) (by simp)
set_option maxHeartbeats 1000000 in
theorem jZ (s : ByteArray) (g i : Int) (hs : s.size ≤ 900000) : Spec Tryz.prog 6 [.t (.str s), .t (.int .i64 g), .t (.int .i64 i)] [] (.t (.str (sdS s g i))) [] := by
  have h1 := j7 g
  have h2 := j7 i
  have hL := zfa [s, xz g, xz i] 900000 (by
    intro x hx
    rcases List.mem_cons.1 hx with rfl | hx
    · exact hs
    rcases List.mem_cons.1 hx with rfl | hx
    · rw [yJ]; decide
    rcases List.mem_cons.1 hx with rfl | hx
    · rw [yJ]; decide
    · cases hx) (by simp) (by simp)
  rw [show sha (qK [s, xz g, xz i]) = sdS s g i from rfl] at hL
  generalize sdS s g i = Y at *
  generalize xz g = A at *
  generalize xz i = B at *
  refine wI Tryz.func6 ?_
  repeat' (first | refine wC ?_ | refine zW (es := [s, A, B].map T.str) rfl rfl rfl rfl rfl rfl ?_ | refine wK ?_ | ((with_reducible refine zg ?_); first | refine wL h1 ?_ | refine wL h2 ?_ | refine wL hL ?_) | fail)
  exact zo (zf rfl rfl rfl) (by simp)
set_option maxHeartbeats 1000000 in
theorem y5 (n m : Int) : Spec Tryz.prog 33 [.t (.int .i64 n), .t (.int .i64 m)] [] (.t (.bool (decide (m ≤ n) && decide (n ≤ 8)))) [] := by
  refine wI Tryz.func33 ?_
  repeat' (first | refine wC ?_ | refine wK ?_ | refine yi rfl ?_ ?_ <;> intro hc)
  all_goals exact zo (zf rfl rfl (congrArg T.bool (by simp [hc]))) (by simp)
def za9 (n : Int) : Bool := decide (n < 0) || decide (8 < n)
set_option maxHeartbeats 1000000 in
theorem zbQ (n : Int) : Spec Tryz.prog 35 [.t (.int .i64 n)] [] (.t (.bool (za9 n))) [] := by
  refine wI Tryz.func35 ?_
  repeat' (first | refine wC ?_ | refine wK ?_ | refine yi rfl ?_ ?_ <;> intro hc)
  all_goals exact zo (zf rfl rfl (congrArg T.bool (by simp [za9, hc]))) (by simp)
set_option maxHeartbeats 2000000 in
theorem za7 (p : Int → Bool) (g : FuncId) [FnB Tryz.prog g] (l : List Int) (hf : ∀ x ∈ l, Spec Tryz.prog g [.t (.int .i64 x)] [] (.t (.bool (p x))) []) (hl : l.length ≤ 1000000000) : Spec Tryz.prog 56 [.t (.sl 1 (l.map (T.int .i64))), .t (.fn g)] [] (.t (.int .i64 (zgr p l 0))) [] := by
  obtain ⟨R, hR⟩ : ∃ R, R = zgr p l 0 := ⟨_, rfl⟩
  rw [← hR]
  refine wI Tryz.func56 ?_
  repeat' (first | refine wC ?_ | refine wK ?_ | fail)
  refine zb (za [0, 1, 7, 8] [] rfl rfl) ?_
  refine ze (fun q env st => ∃ (j : Nat), j ≤ l.length ∧ q = l.length - j ∧ zgr p (l.drop j) j = R ∧ env = EnvL.get [(0, .t (.sl 1 (l.map (T.int .i64)))), (1, .t (.fn g)), (7, .t (.int .i64 (l.length : Int))), (8, .t (.int .i64 (j : Int)))] ∧ st = StO.get [])
    ?_ (n := l.length) ⟨0, by omega, rfl, hR.symm, rfl, rfl⟩
  rintro q env st ⟨j, hj, rfl, hG, rfl, rfl⟩
  have wj : IntKind.i64.wrap ((j : Int) + 1) = ((j + 1 : Nat) : Int) := by rw [zj (by omega) (by omega)]; omega
  by_cases hlt : j < l.length
  · have hcl := hf (l.getD (j : Int).toNat default) (by rw [Int.toNat_natCast, List.getD_eq_getElem?_getD, List.getElem?_eq_getElem hlt]; exact List.getElem_mem _)
    rw [kS l j hlt, zgr, show l.getD j default = l.getD (j : Int).toNat default from rfl] at hG
    cases hp : p (l.getD (j : Int).toNat default) with
    | true =>
      rw [hp] at hcl hG
      rw [if_pos rfl] at hG
      repeat' (first | refine wC ?_ | (exfalso; omega) | refine wK ?_ | ((with_reducible refine zd ?_); refine zc rfl rfl rfl rfl rfl rfl ?_ ?_ ?_) | ((with_reducible refine zg ?_); refine wL hcl ?_) | refine zi rfl ?_ ?_ <;> intro hc)
      all_goals try (simp only [List.length_map]; omega)
      all_goals try omega
      all_goals first | rfl | exact zo (zf rfl rfl (congrArg (T.int .i64) hG)) (by simp)
    | false =>
      rw [hp] at hcl hG
      rw [if_neg (by decide)] at hG
      repeat' (first | refine wC ?_ | (exfalso; omega) | refine wK ?_ | ((with_reducible refine zd ?_); refine zc rfl rfl rfl rfl rfl rfl ?_ ?_ ?_) | ((with_reducible refine zg ?_); refine wL hcl ?_) | refine zi rfl ?_ ?_ <;> intro hc)
      all_goals try (simp only [List.length_map]; omega)
      all_goals try omega
      all_goals first | rfl | exact zr (n' := l.length - (j + 1)) (by omega) (za [0, 1, 7, 8] [] rfl rfl) ⟨j + 1, by omega, rfl, hG, by rw [wj]; rfl, rfl⟩
  · obtain rfl : j = l.length := by omega
    rw [List.drop_length, zgr] at hG
    repeat' (first | refine wC ?_ | (exfalso; omega) | refine wK ?_ | refine zi rfl ?_ ?_ <;> intro hc)
    exact zo (zf rfl rfl (congrArg (T.int .i64) hG)) (by simp)
set_option maxHeartbeats 2000000 in
theorem ki (p : Int → Bool) (g : FuncId) [FnB Tryz.prog g] (l : List Int) (hf : ∀ x ∈ l, Spec Tryz.prog g [.t (.int .i64 x)] [] (.t (.bool (p x))) []) (hl : l.length ≤ 1000000000) : Spec Tryz.prog 36 [.t (.sl 1 (l.map (T.int .i64))), .t (.fn g)] [] (.t (.bool (l.any p))) [] := by
  have hI := za7 p g l hf hl
  rw [← zfJ p l 0]
  generalize zgr p l 0 = R at *
  refine wI Tryz.func36 ?_
  repeat' (first | refine wC ?_ | refine wK ?_ | ((with_reducible refine zg ?_); refine wL hI ?_) | fail)
  exact zo (zf rfl rfl rfl) (by simp)
def zct : Int → List Int → Int
  | a, [] => a
  | a, x :: l => zct (if x > a then x else a) l
set_option maxHeartbeats 2000000 in
theorem zdV (a : Int) (l : List Int) (hl : l.length ≤ 1000000000) : Spec Tryz.prog 38 [.t (.sl 1 ((a :: l).map (T.int .i64)))] [] (.t (.int .i64 (zct a l))) [] := by
  obtain ⟨R, hR⟩ : ∃ R, R = zct a l := ⟨_, rfl⟩
  rw [← hR]
  obtain ⟨w, hw⟩ : ∃ w, w = a :: l := ⟨_, rfl⟩
  have hwl : w.length = l.length + 1 := by rw [hw]; rfl
  have ha : w.getD (0 : Int).toNat default = a := by rw [hw]; rfl
  have hd : w.drop 1 = l := by rw [hw]; rfl
  rw [← hw]
  refine wI Tryz.func38 ?_
  repeat' (first | refine wC ?_ | (exfalso; omega) | refine wK ?_ | ((with_reducible refine zd ?_); refine zc rfl rfl rfl rfl rfl rfl ?_ ?_ ?_) | refine zi rfl ?_ ?_ <;> intro hc)
  · omega
  · omega
  rw [ha]
  refine zb (za [0, 3, 4] [] rfl rfl) ?_
  refine ze (fun q env st => ∃ (j : Nat) (c : Int), 1 ≤ j ∧ j ≤ w.length ∧ q = w.length - j ∧ zct c (w.drop j) = R ∧ env = EnvL.get [(0, .t (.sl 1 (w.map (T.int .i64)))), (3, .t (.int .i64 c)), (4, .t (.int .i64 (j : Int)))] ∧ st = StO.get [])
    ?_ (n := w.length - 1) ⟨1, a, by omega, by omega, rfl, by rw [hd, hR], rfl, rfl⟩
  rintro q env st ⟨j, c, hj1, hj, rfl, hG, rfl, rfl⟩
  have wj : IntKind.i64.wrap ((j : Int) + 1) = ((j + 1 : Nat) : Int) := by rw [zj (by omega) (by omega)]; omega
  clear ha hd hw
  by_cases hlt : j < w.length
  · rw [kS w j hlt, zct, show w.getD j default = w.getD (j : Int).toNat default from rfl] at hG
    repeat' (first | refine wC ?_ | (exfalso; omega) | refine wK ?_ | ((with_reducible refine zd ?_); refine zc rfl rfl rfl rfl rfl rfl ?_ ?_ ?_) | refine zi rfl ?_ ?_ <;> intro hc)
    all_goals try omega
    all_goals exact zr (n' := w.length - (j + 1)) (by omega) (za [0, 3, 4] [] rfl rfl) ⟨j + 1, _, by omega, by omega, rfl, hG, by rw [wj]; rfl, rfl⟩
  · obtain rfl : j = w.length := by omega
    rw [List.drop_length, zct] at hG
    repeat' (first | refine wC ?_ | (exfalso; omega) | refine wK ?_ | refine zi rfl ?_ ?_ <;> intro hc)
    all_goals exact zo (zf rfl rfl (congrArg (T.int .i64) hG)) (by simp)
set_option maxHeartbeats 2000000 in
theorem zez (l : List Int) (h0 : 0 < l.length) (hl : l.length ≤ 1000000) : Spec Tryz.prog 57 [.t (.sl 1 (l.map (T.int .i64)))] [] (.row (.res 0)) [(.res 0, .slt 3 1 (l.map (T.int .i64)))] := by
  obtain ⟨x, t, rfl⟩ : ∃ x t, l = x :: t := by
    cases l with
    | nil => simp at h0
    | cons x t => exact ⟨x, t, rfl⟩
  refine wIG Tryz.func57 ?_
  repeat' (first | refine wC ?_ | refine wK ?_ | ((with_reducible refine zD ?_); refine qZ rfl rfl rfl rfl rfl rfl rfl rfl rfl ?_ ?_ ?_))
  · simp only [List.length_map, List.length_nil]; omega
  · simp only [List.length_map, List.length_nil]; omega
  refine zx ((za [2] [.loc 7] rfl rfl).trans (zk (.loc 7) (.res 0) rfl rfl rfl rfl)) ?_
  exact zQ (zo (yl rfl (AVLE.refl _)) (zv ⟨rfl, trivial⟩))
def qq (s : ByteArray) (p c n : Int) (l : List Int) : Bool := decide ((s.size : Int) = 32) && decide (0 ≤ p) && decide (p < 65536) && (decide (1 ≤ c) && decide (c ≤ 8)) && (decide (0 ≤ n) && decide (n ≤ 8)) && decide ((l.length : Int) = c) && !l.any za9
set_option maxHeartbeats 4000000 in
theorem yQ (s : ByteArray) (p c n : Int) (l : List Int) (hl : l.length ≤ 1000000) : Spec Tryz.prog 16 [.t (vaT s p c n l)] [] (.t (.bool (qq s p c n l))) [] := by
  have hC := ki za9 35 l (fun x _ => zbQ x) (by omega)
  have hk1 := y5 c 1
  have hk2 := y5 n 0
  obtain ⟨R, hR⟩ : ∃ R, R = qq s p c n l := ⟨_, rfl⟩
  rw [← hR]
  unfold qq at hR
  generalize l.any za9 = A at *
  generalize (decide (1 ≤ c) && decide (c ≤ 8)) = B1 at *
  generalize (decide (0 ≤ n) && decide (n ≤ 8)) = B2 at *
  unfold vaT
  refine wI Tryz.func16 ?_
  repeat' (first | refine wC ?_ | refine wK ?_ | ((with_reducible refine zg ?_); first | refine wL hC ?_ | refine wL hk1 ?_ | refine wL hk2 ?_) | refine yi rfl ?_ ?_ <;> intro hc | refine vZ rfl ?_ ?_ <;> intro hc)
  all_goals exact zo (zf rfl rfl (congrArg T.bool (by rw [hR]; simp [*]))) (by simp)
set_option maxHeartbeats 2000000 in
theorem zbj (s : ByteArray) (c n : Int) (hs : s.size = 32) (h1 : 1 ≤ c) (h2 : c ≤ 8) (h3 : 0 ≤ n) (h4 : n ≤ 8) : Spec Tryz.prog 10 [.t (.str s), .t (.int .i64 c), .t (.int .i64 n)] [] (.tup [.t (vaT s 0 c n (List.replicate c.toNat 0)), .t (.int .i64 0)]) [] := by
  have hk1 := y5 c 1
  have hk2 := y5 n 0
  rw [show (decide (1 ≤ c) && decide (c ≤ 8)) = true from by simp [h1, h2]] at hk1
  rw [show (decide (0 ≤ n) && decide (n ≤ 8)) = true from by simp [h3, h4]] at hk2
  rw [show vaT s 0 c n (List.replicate c.toNat 0) = .agg [.str s, .int .i64 0, .int .i64 c, .int .i64 n, .sl 1 (List.replicate c.toNat (T.int .i64 0))] from by unfold vaT; rw [List.map_replicate]]
  refine wIG Tryz.func10 ?_
  repeat' (first | refine wC ?_ | (exfalso; omega) | refine vw (r := .agg [.t (.str s), .t (.int .i64 0), .t (.int .i64 c), .t (.int .i64 n), .row (.loc 27)]) rfl rfl rfl rfl rfl rfl rfl ?_ | refine wK ?_ | ((with_reducible refine yG ?_); refine yo (zT := .int _ _) rfl rfl rfl rfl rfl rfl rfl rfl rfl ?_ ?_ ?_ ?_ ?_) | ((with_reducible refine zg ?_); first | refine wL hk1 ?_ | refine wL hk2 ?_) | refine zR rfl ?_ ?_ <;> intro hc)
  · omega
  · omega
  · omega
  · omega
  refine zx (zh (id := .loc 27) rfl rfl rfl) ?_
  refine zQ (zo ?_ (by simp)); refine zL rfl rfl rfl inferInstance rfl inferInstance rfl ?_ ?_; exact TLe.av wT; exact AVLE.refl _
set_option maxHeartbeats 2000000 in
theorem vT (s : ByteArray) (p c n : Int) (l : List Int) (h0 : 0 < l.length) (hl : l.length ≤ 1000000) : Spec Tryz.prog 37 [.t (vaT s p c n l)] [] (.agg [.t (.str s), .t (.int .i64 p), .t (.int .i64 c), .t (.int .i64 n), .row (.res 0)]) [(.res 0, .slt 3 1 (l.map (T.int .i64)))] := by
  have hC := zez l h0 hl
  refine wIG Tryz.func37 ?_
  repeat' (first | refine wC ?_ | refine wK ?_ | ((with_reducible refine zg ?_); refine wN (.row (.loc 900)) [(.res 0, .loc 900)] hC ?_) | fail)
  refine zx ((za [2] [.loc 2, .loc 900] rfl rfl).trans (zk (.loc 900) (.res 0) rfl rfl rfl rfl)) ?_
  refine zQ (zo ?_ (zv ⟨rfl, trivial⟩)); exact xL rfl rfl rfl inferInstance rfl inferInstance rfl (AVLE.refl _)
end Go.AL
