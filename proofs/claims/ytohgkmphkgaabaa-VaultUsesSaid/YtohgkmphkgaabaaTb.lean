/- What functions of the program and of the document answer, and the plain laws behind it; each under the conditions that its own theorem names. -/
import Derived.Test.YtohgkmphkgaabaaTa
import Derived.Test.YtohgkmphkgaabaaAl3
import Derived.Test.YtohgkmphkgaabaaAl4
set_option linter.unusedVariables false
namespace Go.AL
open Go Go.Proofs Go.RowKit
def xZ (n : Int) : ByteArray := vZ [.int .u8 (IntKind.u8.wrap (n / 2 ^ 24)), .int .u8 (IntKind.u8.wrap (n / 2 ^ 16)), .int .u8 (IntKind.u8.wrap (n / 2 ^ 8)), .int .u8 (IntKind.u8.wrap n)]
theorem x5 (es : List T) : (vZ es).size = es.length := by
  unfold vZ strOfNums
  rw [ByteArray.size, List.size_toArray, List.length_map, List.length_map]
theorem y7 (n : Int) : (xZ n).size = 4 := x5 _
theorem jR (a b c d : Int) : IsU8 [T.int .u8 a, .int .u8 b, .int .u8 c, .int .u8 d] := by
  intro e he
  simp only [List.mem_cons, List.not_mem_nil, or_false] at he
  rcases he with rfl | rfl | rfl | rfl <;> rfl
set_option maxHeartbeats 1000000 in
theorem zaH (n : Int) : Spec Try.prog 70 [.t (.int .i64 n)] [] (.t (.str (xZ n))) [] := by
  refine wI Try.func70 ?_
  repeat' (first | refine wC ?_ | refine wK ?_ | ((with_reducible refine zN ?_); refine zw rfl rfl rfl rfl rfl rfl ?_ ?_) | fail)
  all_goals try exact jR _ _ _ _
  exact zx (zd rfl rfl rfl) (by simp)
def yu (s : ByteArray) : ByteArray := (sha s).extract 0 16
theorem yL (s : ByteArray) : (yu s).size = 16 := by unfold yu; rw [ByteArray.size_extract, xm]; omega
set_option maxHeartbeats 1000000 in
theorem xy (s : ByteArray) (hs : s.size ≤ 40000000) : Spec Try.prog 29 [.t (.str s)] [] (.t (.str (yu s))) [] := by
  have hS := vg s hs
  have hz := xm s
  unfold yu
  generalize sha s = Y at hS hz ⊢
  refine wI Try.func29 ?_
  repeat' (first | refine wC ?_ | refine wK ?_ | ((with_reducible refine yn ?_); refine zr rfl rfl rfl ⟨_, rfl⟩ rfl rfl rfl ?_ ?_ ?_ ?_) | ((with_reducible refine zk ?_); refine wL hS ?_) | fail)
  all_goals try omega
  exact zx (zd rfl rfl rfl) (by simp)
set_option maxHeartbeats 1000000 in
theorem xQ (s : ByteArray) (hs : s.size ≤ 40000000) : Spec Try.prog 30 [.t (.str s)] [] (.t (.str (yu s))) [] := by
  have hS := qJ s hs
  have hz := xm s
  unfold yu
  generalize sha s = Y at hS hz ⊢
  refine wI Try.func30 ?_
  repeat' (first | refine wC ?_ | refine wK ?_ | ((with_reducible refine yn ?_); refine zr rfl rfl rfl ⟨_, rfl⟩ rfl rfl rfl ?_ ?_ ?_ ?_) | ((with_reducible refine zk ?_); refine wL hS ?_) | fail)
  all_goals try omega
  exact zx (zd rfl rfl rfl) (by simp)
def yd (l : List ByteArray) (j : Nat) : ByteArray := (l.take j).foldl (fun s x => s ++ (xZ x.size ++ x)) (⟨#[2]⟩ ++ xZ l.length)
def zaX (l : List ByteArray) : ByteArray := yd l l.length
theorem x9 (l : List ByteArray) (j : Nat) (h : j < l.length) : yd l (j + 1) = yd l j ++ (xZ (l.getD j default).size ++ l.getD j default) := by
  unfold yd
  rw [List.take_add_one, List.getElem?_eq_getElem h, Option.toList_some, List.foldl_append]
  simp [List.getD_eq_getElem?_getD, h]
theorem vC {B : Nat} (l : List ByteArray) (hB : ∀ x ∈ l, x.size ≤ B) : ∀ j, j ≤ l.length → (yd l j).size ≤ 5 + j * (B + 4)
  | 0, _ => by
    unfold yd
    rw [List.take_zero, List.foldl_nil, ByteArray.size_append, y7]
    show 1 + 4 ≤ _; omega
  | j + 1, h => by
    have ih := vC l hB j (by omega)
    have hm : l.getD j default ∈ l := by rw [List.getD_eq_getElem?_getD, List.getElem?_eq_getElem (by omega)]; exact List.getElem_mem _
    have := hB _ hm
    rw [x9 l j (by omega), ByteArray.size_append, ByteArray.size_append, y7, Nat.add_mul]
    omega
theorem qD (l : List ByteArray) : ∀ j, 1 ≤ (yd l j).size
  | 0 => by
    unfold yd
    rw [List.take_zero, List.foldl_nil, ByteArray.size_append]
    show 1 ≤ 1 + _; omega
  | j + 1 => by
    have ih := qD l j
    rcases Nat.lt_or_ge j l.length with h | h
    · rw [x9 l j h, ByteArray.size_append]; omega
    · have e : yd l (j + 1) = yd l j := by
        unfold yd; rw [List.take_of_length_le (by omega), List.take_of_length_le h]
      rw [e]; exact ih
theorem ve (a b : ByteArray) : zD (a ++ b) = zD a ++ zD b := by
  unfold zD
  rw [ByteArray.data_append, Array.toList_append, List.map_append]
set_option maxHeartbeats 4000000 in
theorem zdE (l : List ByteArray) (B : Nat) (hB : ∀ x ∈ l, x.size ≤ B) (hl : l.length ≤ 100000) (hm : l.length * (B + 4) ≤ 20000000) : Spec Try.prog 27 [.t (.sl 1 (l.map .str))] [] (.t (.str (sha (zaX l)))) [] := by
  have hsz := vC l hB
  have hmul : ∀ j, j ≤ l.length → j * (B + 4) ≤ l.length * (B + 4) := fun j hj => Nat.mul_le_mul_right _ hj
  have hSum := vg (zaX l) (by have := hsz l.length (Nat.le_refl _); unfold zaX; omega)
  have h1 := zaH (l.length : Int)
  have z1 := y7 (l.length : Int)
  have hp0 : yd l 0 = ⟨#[2]⟩ ++ xZ (l.length : Int) := rfl
  generalize sha (zaX l) = Y at hSum ⊢
  have o2 : (⟨#[2]⟩ : ByteArray).size = 1 := rfl
  have hw := jq (⟨#[2]⟩ ++ xZ (l.length : Int)) (by rw [ByteArray.size_append, o2]; omega)
  rw [← hp0] at hw
  unfold zfX zdi at hw
  refine wI Try.func27 ?_
  repeat' (first | refine wC ?_ | refine wK ?_ | ((with_reducible refine zJ ?_); refine zI rfl rfl rfl rfl rfl rfl ?_ ?_) | ((with_reducible refine zk ?_); first | refine wL h1 ?_ | refine wN (.tup [_, _]) [(.par 0, .loc 3), (.res 0, .loc 901)] hw ?_) | fail)
  · rw [o2]; omega
  refine zb (za [3, 11, 12, 13] [.loc 3, .loc 901] rfl rfl) ?_
  refine zf (fun p env st => ∃ (j : Nat), j ≤ l.length ∧ p = l.length - j ∧
      env = EnvL.get [(3, .ref (.loc 3) 0 0 0), (11, .t (.sl 1 (l.map .str))), (12, .t (.int .i64 (l.length : Int))), (13, .t (.int .i64 (j : Int)))] ∧
      st = StO.get [(.loc 3, some (.var 102 [.ref (.loc 3) 0 0 0, .row (.loc 901)])), (.loc 901, some (.slt 5 1 (zD (yd l j))))])
    ?_ (n := l.length) ⟨0, by omega, rfl, rfl, rfl⟩
  clear hw h1
  rintro p env st ⟨j, hj, rfl, rfl, rfl⟩
  have hsj := hsz j hj
  have hmj := hmul j hj
  by_cases hlt : j < l.length
  · have hm2 : l.getD (j : Int).toNat default ∈ l := by rw [List.getD_eq_getElem?_getD, List.getElem?_eq_getElem (by omega)]; exact List.getElem_mem _
    have hx := hB _ hm2
    have hsucc := x9 l j hlt
    have hg : l.getD (j : Int).toNat default = l.getD j default := rfl
    have hmj1 := hmul (j + 1) (by omega)
    rw [Nat.add_mul] at hmj1
    rw [← hg] at hsucc
    have h2 := zaH ((l.getD (j : Int).toNat default).size : Int)
    have z2 := y7 ((l.getD (j : Int).toNat default).size : Int)
    have hw := js (zD (yd l j)) (xZ ((l.getD (j : Int).toNat default).size : Int) ++ l.getD (j : Int).toNat default) (by rw [zW, ByteArray.size_append, z2]; omega)
    unfold za1 zdi at hw
    repeat' (first | refine wC ?_ | refine wK ?_ | ((with_reducible refine zJ ?_); refine zI rfl rfl rfl rfl rfl rfl ?_ ?_) | ((with_reducible refine ze ?_); refine zi rfl rfl rfl rfl rfl rfl ?_ ?_ ?_) | ((with_reducible refine zk ?_); first | refine wL h2 ?_ | refine wN (.tup [_, _]) [(.par 0, .loc 3), (.par 1, .loc 901), (.res 0, .loc 902)] hw ?_) | refine zm rfl ?_ ?_ <;> intro hc | fail)
    all_goals try (exfalso; omega)
    all_goals try omega
    refine zv (n' := l.length - (j + 1)) (by omega) ((za [3, 11, 12, 13] [.loc 3, .loc 902] rfl rfl).trans (zo (.loc 902) (.loc 901) rfl rfl rfl rfl)) ⟨j + 1, by omega, rfl, by rw [zj (by omega) (by omega)]; rfl, ?_⟩
    rw [hsucc, ve (yd l j)]; rfl
  · obtain rfl : j = l.length := by omega
    have hne : (yd l l.length).data.toList ≠ [] := by
      intro h
      have h3 := zK (yd l l.length)
      rw [h] at h3
      have := qD l l.length
      simp at h3; omega
    have hS := qm (yd l l.length).data.toList (by rw [zK]; omega) hne
    rw [we, ← xA] at hS
    unfold za1 at hS
    rw [show zaX l = yd l l.length from rfl] at hSum
    generalize yd l l.length = X at hS hSum ⊢
    repeat' (first | refine wC ?_ | refine wK ?_ | ((with_reducible refine ze ?_); refine zi rfl rfl rfl rfl rfl rfl ?_ ?_ ?_) | ((with_reducible refine zk ?_); first | refine wN (.t (.str _)) [(.par 0, .loc 3), (.par 1, .loc 901)] hS ?_ | refine wL hSum ?_) | refine zm rfl ?_ ?_ <;> intro hc | fail)
    all_goals try (exfalso; omega)
    exact zx (zd rfl rfl rfl) (by simp)
def vf (c p : Int) : ByteArray := vZ [.int .u8 (IntKind.u8.wrap c), .int .u8 (IntKind.u8.wrap p)]
theorem vm (c p : Int) : (vf c p).size = 2 := x5 _
theorem zb2 (a b : Int) : IsU8 [T.int .u8 a, .int .u8 b] := by
  intro e he
  simp only [List.mem_cons, List.not_mem_nil, or_false] at he
  rcases he with rfl | rfl <;> rfl
theorem jy (a : Int) : IsU8 [T.int .u8 a] := by
  intro e he
  simp only [List.mem_cons, List.not_mem_nil, or_false] at he
  rcases he with rfl; rfl
def zaA (v : ByteArray) (c p : Int) : ByteArray := yu (v ++ vf c p)
theorem kG (v : ByteArray) (c p : Int) : (zaA v c p).size = 16 := yL _
def zf4 (v : ByteArray) (c : Int) : ByteArray := yu (v ++ vf 128 c)
theorem zav (v : ByteArray) (c : Int) : (zf4 v c).size = 16 := yL _
theorem ze1 (c : Int) : (⟨#[128]⟩ : ByteArray) ++ vZ [.int .u8 (IntKind.u8.wrap c)] = vf 128 c := rfl
def yl (v : ByteArray) (c : Int) (p : Nat) : Nat → ByteArray
  | 0 => v
  | n + 1 => zaA (yl v c p n) c ((p + n : Nat) : Int)
theorem qo {v : ByteArray} (hv : v.size = 16) (c : Int) (p : Nat) : ∀ n, (yl v c p n).size = 16
  | 0 => hv
  | n + 1 => kG _ _ _
theorem jN (v : ByteArray) (c : Int) (p : Nat) : ∀ n, (yl v c p n).size ≤ v.size + 16
  | 0 => by rw [yl]; omega
  | n + 1 => by rw [yl, kG]; omega
theorem kS (v : ByteArray) (c : Int) (m : Nat) : ∀ n, yl (yl v c 0 m) c m n = yl v c 0 (m + n)
  | 0 => rfl
  | n + 1 => by
    rw [yl, kS v c m n, ← Nat.add_assoc, yl, Nat.zero_add]
def zfq (v : ByteArray) (d : Nat → Nat) (c : Nat) : ByteArray := yl (zf4 v (c : Int)) (c : Int) 0 (d c)
theorem qq (v : ByteArray) (d : Nat → Nat) (c : Nat) : (zfq v d c).size = 16 := qo (zav _ _) _ _ _
def kA (v : ByteArray) (d : Nat → Nat) (n : Nat) : ByteArray := zdf (zfq v d) n
theorem qp (v : ByteArray) (d : Nat → Nat) (n : Nat) : (kA v d n).size = 16 * n := kc (qq v d) n
def zca (v : ByteArray) : ByteArray := yu (kA v (fun _ => 3) 36)
def zdk (v m : ByteArray) : ByteArray := kA v (wz (sha m)) 36
theorem wZ (v m : ByteArray) : (zdk v m).size = 576 := by unfold zdk; rw [qp]
def zgt (d : Nat → Nat) (w : ByteArray) (c : Nat) : ByteArray := yl (w.extract (16 * c) (16 * (c + 1))) (c : Int) (d c) (3 - d c)
theorem jP {d : Nat → Nat} {w : ByteArray} {c : Nat} (h : 16 * (c + 1) ≤ w.size) : (zgt d w c).size = 16 := qo (by rw [ByteArray.size_extract]; omega) _ _ _
def zex (d : Nat → Nat) (w : ByteArray) (n : Nat) : ByteArray := zdf (zgt d w) n
theorem qW {d : Nat → Nat} {w : ByteArray} : ∀ n, 16 * n ≤ w.size → (zex d w n).size = 16 * n
  | 0, _ => rfl
  | n + 1, h => by
    have := qW (d := d) (w := w) n (by omega)
    unfold zex at this ⊢
    rw [zdf, ByteArray.size_append, jP h, this]; omega
def zg3 (m w : ByteArray) : ByteArray := yu (zex (wz (sha m)) w 36)
theorem zfx (v m : ByteArray) : zg3 m (zdk v m) = zca v := by
  unfold zg3 zca zex kA
  refine congrArg yu (kT 36 (fun c hc => ?_))
  unfold zgt zdk kA
  rw [jU (qq v _) 36 c hc]
  unfold zfq
  rw [kS]
  have := qN (sha m) c
  rw [show wz (sha m) c + (3 - wz (sha m) c) = 3 by omega]
end Go.AL
namespace Go.AL
open Go Go.RowKit
def byS (u : Int) : ByteArray := vZ [.int .u8 (IntKind.u8.wrap u)]
theorem qf (u : Int) : (byS u).size = 1 := x5 _
def vN (s : ByteArray) (u : Int) : ByteArray := sha (s ++ byS u)
theorem jS (s : ByteArray) (u : Int) : (vN s u).size = 32 := xm _
def zg0 (p : ByteArray) : ByteArray := yu (⟨#[0]⟩ ++ p)
def zct (a b : ByteArray) : ByteArray := yu (⟨#[1]⟩ ++ a ++ b)
def zg4 (t : ByteArray) : ByteArray := sha (⟨#[2]⟩ ++ t)
def ktL (s : ByteArray) : Nat → Nat → ByteArray
  | 0, i => zg0 (zca (vN s (i : Int)))
  | k + 1, i => zct (ktL s k (2 * i)) (ktL s k (2 * i + 1))
theorem zM (s : ByteArray) : ∀ k i, (ktL s k i).size = 16
  | 0, i => yL _
  | k + 1, i => yL _
def zF (s : ByteArray) (k n : Nat) : List ByteArray := (List.range n).map (ktL s k)
theorem zX (s : ByteArray) (k n : Nat) : (zF s k n).length = n := by simp [zF]
theorem wv (s : ByteArray) (k n : Nat) : zF s k (n + 1) = zF s k n ++ [ktL s k n] := by simp [zF, List.range_succ]
theorem zfh (s : ByteArray) (k n : Nat) {i : Nat} (h : i < n) : (zF s k n).getD i default = ktL s k i := by
  unfold zF
  rw [List.getD_eq_getElem?_getD, List.getElem?_map, List.getElem?_range h]; rfl
def ktP (s : ByteArray) : ByteArray := zg4 (ktL s 3 0)
theorem zb3 (s : ByteArray) : (ktP s).size = 32 := xm _
def ktB (s : ByteArray) (u k : Nat) : ByteArray := ktL s k (u / 2 ^ k ^^^ 1)
def ktS (s : ByteArray) (u : Nat) (m : ByteArray) : ByteArray := byS (u : Int) ++ zdk (vN s (u : Int)) m ++ ktB s u 0 ++ ktB s u 1 ++ ktB s u 2
theorem zbZ (s : ByteArray) (u : Nat) (m : ByteArray) : (ktS s u m).size = 625 := by
  unfold ktS ktB
  simp only [ByteArray.size_append, qf, wZ, zM]
theorem zgg (s : ByteArray) (u k : Nat) (hu : u < 8) (hk : k < 3) : ktL s (k + 1) (u / 2 ^ (k + 1)) = if u / 2 ^ k % 2 = 0 then zct (ktL s k (u / 2 ^ k)) (ktB s u k) else zct (ktB s u k) (ktL s k (u / 2 ^ k)) := by
  unfold ktB
  rw [ktL]
  have e : u / 2 ^ (k + 1) = u / 2 ^ k / 2 := by rw [Nat.pow_succ, Nat.div_div_eq_div_mul]
  rw [e]
  have hv : u / 2 ^ k < 8 := Nat.lt_of_le_of_lt (Nat.div_le_self _ _) hu
  generalize u / 2 ^ k = v at *
  have : v = 0 ∨ v = 1 ∨ v = 2 ∨ v = 3 ∨ v = 4 ∨ v = 5 ∨ v = 6 ∨ v = 7 := by omega
  rcases this with rfl | rfl | rfl | rfl | rfl | rfl | rfl | rfl <;> rfl
end Go.AL
namespace Go.AL
open Go Go.Proofs Go.RowKit
theorem zhk : ∀ n : Fin 256, IntKind.i64.wrap ((BitVec.ofInt IntKind.i64.bits (n.val : Int) &&& BitVec.ofInt IntKind.i64.bits 3).toNat : Int) = ((n.val % 4 : Nat) : Int) := by decide +kernel
theorem zgP {n : Nat} (h : n < 256) : IntKind.i64.wrap ((BitVec.ofInt IntKind.i64.bits (n : Int) &&& BitVec.ofInt IntKind.i64.bits 3).toNat : Int) = ((n % 4 : Nat) : Int) := zhk ⟨n, h⟩
theorem ix4 : ∀ j : Fin 32, IntKind.i64.wrap ((j.val : Int).tdiv 4) = ((j.val / 4 : Nat) : Int) := by decide +kernel
theorem sh4 : ∀ j : Fin 32, IntKind.i64.wrap (6 - IntKind.i64.wrap (2 * (j.val : Int).tmod 4)) = ((6 - 2 * (j.val % 4) : Nat) : Int) := by decide +kernel
theorem mn4 (j : Nat) : min ((6 - 2 * (j % 4) : Nat) : Int).toNat IntKind.u8.bits = 6 - 2 * (j % 4) := by
  have : IntKind.u8.bits = 8 := rfl
  omega
theorem zek (Y : ByteArray) (j : Nat) (hj : j < 32) : IntKind.i64.wrap ((BitVec.ofInt IntKind.i64.bits (IntKind.i64.wrap (bAt Y ((j / 4 : Nat) : Int) / 2 ^ (6 - 2 * (j % 4)))) &&& BitVec.ofInt IntKind.i64.bits 3).toNat : Int) = (wz Y j : Int) := by
  unfold wz
  rw [if_pos hj]
  unfold zg2
  have hb := jT Y ((j / 4 : Nat) : Int)
  generalize bAt Y ((j / 4 : Nat) : Int) = b at hb ⊢
  obtain ⟨n, rfl⟩ : ∃ n : Nat, b = n := ⟨b.toNat, by omega⟩
  have hn : n < 256 := by omega
  have hq : n / 2 ^ (6 - 2 * (j % 4)) ≤ n := Nat.div_le_self _ _
  have e : (n : Int) / 2 ^ (6 - 2 * (j % 4)) = ((n / 2 ^ (6 - 2 * (j % 4)) : Nat) : Int) := by simp
  rw [e]
  have hm : (n : Int).toNat / 2 ^ (6 - 2 * (j % 4)) = n / 2 ^ (6 - 2 * (j % 4)) := by rw [Int.toNat_natCast]
  generalize n / 2 ^ (6 - 2 * (j % 4)) = m at hq hm ⊢
  rw [zj (n := (m : Int)) (by omega) (by omega), zgP (by omega)]
  exact congrArg (fun k : Nat => ((k % 4 : Nat) : Int)) hm.symm
theorem vc (Y : ByteArray) (k : Nat) (hk : k < 4) : IntKind.i64.wrap ((BitVec.ofInt IntKind.i64.bits ((y4 Y 32 : Int) / 2 ^ (2 * (3 - k))) &&& BitVec.ofInt IntKind.i64.bits 3).toNat : Int) = (wz Y (32 + k) : Int) := by
  unfold wz
  rw [if_neg (by omega), show 35 - (32 + k) = 3 - k by omega]
  have hr := qj Y 32
  generalize y4 Y 32 = n at hr ⊢
  have hq : n / 2 ^ (2 * (3 - k)) ≤ n := Nat.div_le_self _ _
  have e : (n : Int) / 2 ^ (2 * (3 - k)) = ((n / 2 ^ (2 * (3 - k)) : Nat) : Int) := by simp
  rw [e]
  generalize n / 2 ^ (2 * (3 - k)) = m at hq ⊢
  rw [zgP (by omega)]
theorem sh3 : ∀ k : Fin 4, 0 ≤ IntKind.i64.wrap (2 * (3 - (k.val : Int))) ∧ min (IntKind.i64.wrap (2 * (3 - (k.val : Int)))).toNat IntKind.i64.bits = 2 * (3 - k.val) := by decide +kernel
set_option maxHeartbeats 4000000 in
theorem zbB (s : ByteArray) (hs : s.size ≤ 40000000) : Spec Try.prog 32 [.t (.str s)] [] (.t (.sl 1 (zbs (sha s) 36))) [] := by
  have hS := vg s hs
  have hz := xm s
  generalize sha s = Y at hS hz ⊢
  refine wIG Try.func32 ?_
  repeat' (first | refine wC ?_ | refine wK ?_ | ((with_reducible refine yJ ?_); refine yB (zT := .int _ _) rfl rfl rfl rfl rfl rfl rfl rfl rfl ?_ ?_ ?_ ?_ ?_) | ((with_reducible refine zk ?_); refine wL hS ?_) | fail)
  all_goals try decide
  refine zb (za [3, 4, 5, 12] [.loc 11] rfl rfl) ?_
  refine zf (fun p env st => ∃ (j : Nat), j ≤ 32 ∧ p = 32 - j ∧
      env = EnvL.get [(3, .t (.str Y)), (4, .row (.loc 11)), (5, .t (.int .i64 (y4 Y j : Int))), (12, .t (.int .i64 (j : Int)))] ∧ st = StO.get [(.loc 11, some (.slt 3 1 (zbs Y j)))])
    ?_ (n := 32) ⟨0, by omega, rfl, rfl, rfl⟩
  rintro p env st ⟨j, hj, rfl, rfl, rfl⟩
  by_cases hlt : j < 32
  · have h1 := ix4 ⟨j, hlt⟩
    have h2 := sh4 ⟨j, hlt⟩
    have h3 := mn4 j
    have h4 := zek Y j hlt
    have h5 := qN Y j
    have h6 := qj Y j
    simp only at h1 h2
    repeat' (first | refine wC ?_ | (exfalso; omega) | refine wK ?_ | ((with_reducible refine zJ ?_); refine vM rfl rfl rfl rfl rfl rfl ?_ ?_) | ((with_reducible refine yf ?_); refine zy rfl rfl rfl rfl rfl rfl ?_ ?_ ?_) | ((with_reducible refine zQ ?_); refine zq rfl rfl rfl rfl rfl rfl rfl rfl rfl rfl ?_ ?_ ?_) | refine zm rfl ?_ ?_ <;> intro hc | fail)
    all_goals try simp only [h1, h2, h3, h4, wX, List.length_singleton]
    all_goals try omega
    refine zv (n' := 32 - (j + 1)) (by omega) ((za [3, 4, 5, 12] [.loc 29] rfl rfl).trans (zo (.loc 29) (.loc 11) rfl rfl rfl rfl)) ⟨j + 1, by omega, rfl, ?_, ?_⟩
    · try simp only [h1, h2, h3, h4]
      have : y4 Y (j + 1) = y4 Y j + 3 - wz Y j := by rw [y4, wz, if_pos hlt]
      rw [this, zj (n := (y4 Y j : Int) + 3) (by omega) (by omega), zj (by omega) (by omega), zj (by omega) (by omega), show ((y4 Y j : Int) + 3 - (wz Y j : Int)) = ((y4 Y j + 3 - wz Y j : Nat) : Int) by omega]
      rfl
    · try simp only [h1, h2, h3, h4]
      rw [xg]
      rfl
  · obtain rfl : j = 32 := by omega
    repeat' (first | refine wC ?_ | refine wK ?_ | fail)
    refine zb (za [4, 5, 8] [.loc 11] rfl rfl) ?_
    refine zf (fun p env st => ∃ (k : Nat), k ≤ 4 ∧ p = 4 - k ∧
        env = EnvL.get [(4, .row (.loc 11)), (5, .t (.int .i64 (y4 Y 32 : Int))), (8, .t (.int .i64 (3 - (k : Int))))] ∧ st = StO.get [(.loc 11, some (.slt 3 1 (zbs Y (32 + k))))])
      ?_ (n := 4) ⟨0, by omega, rfl, rfl, rfl⟩
    rintro p env st ⟨k, hk, rfl, rfl, rfl⟩
    by_cases hlt : k < 4
    · have h1 := sh3 ⟨k, hlt⟩
      have h4 := vc Y k hlt
      simp only at h1
      obtain ⟨h1, h2⟩ := h1
      repeat' (first | refine wC ?_ | (exfalso; omega) | refine wK ?_ | ((with_reducible refine zJ ?_); refine vM rfl rfl rfl rfl rfl rfl ?_ ?_) | ((with_reducible refine zQ ?_); refine zq rfl rfl rfl rfl rfl rfl rfl rfl rfl rfl ?_ ?_ ?_) | refine zm rfl ?_ ?_ <;> intro hc | fail)
      all_goals try simp only [h2, h4, wX, List.length_singleton]
      all_goals try omega
      refine zv (n' := 4 - (k + 1)) (by omega) ((za [4, 5, 8] [.loc 46] rfl rfl).trans (zo (.loc 46) (.loc 11) rfl rfl rfl rfl)) ⟨k + 1, by omega, rfl, ?_, ?_⟩
      · rw [zj (by omega) (by omega), show (3 : Int) - (k : Int) - 1 = 3 - ((k + 1 : Nat) : Int) by omega]
        rfl
      · try simp only [h2, h4]
        rw [show 32 + (k + 1) = 32 + k + 1 by omega, xg]
        rfl
    · obtain rfl : k = 4 := by omega
      repeat' (first | refine wC ?_ | refine wK ?_ | fail)
      refine zV (zz (id := .loc 11) rfl rfl rfl) ?_
      exact yI (zx (zd rfl rfl rfl) (zC trivial))
theorem zgM (Y : ByteArray) : [T.int .i64 (IntKind.i64.wrap ((BitVec.ofInt IntKind.i64.bits ((y4 Y 32 : Int) / 2 ^ 6) &&& BitVec.ofInt IntKind.i64.bits 3).toNat : Int)),
    .int .i64 (IntKind.i64.wrap ((BitVec.ofInt IntKind.i64.bits ((y4 Y 32 : Int) / 2 ^ 4) &&& BitVec.ofInt IntKind.i64.bits 3).toNat : Int)),
    .int .i64 (IntKind.i64.wrap ((BitVec.ofInt IntKind.i64.bits ((y4 Y 32 : Int) / 2 ^ 2) &&& BitVec.ofInt IntKind.i64.bits 3).toNat : Int)),
    .int .i64 (IntKind.i64.wrap ((BitVec.ofInt IntKind.i64.bits (y4 Y 32 : Int) &&& BitVec.ofInt IntKind.i64.bits 3).toNat : Int))] = [T.int .i64 (wz Y 32 : Int), .int .i64 (wz Y 33 : Int), .int .i64 (wz Y 34 : Int), .int .i64 (wz Y 35 : Int)] := by
  have h0 := vc Y 0 (by omega)
  have h1 := vc Y 1 (by omega)
  have h2 := vc Y 2 (by omega)
  have h3 := vc Y 3 (by omega)
  simp only [Nat.sub_self, Nat.mul_zero, Int.pow_zero, Int.ediv_one] at h3
  rw [← h0, ← h1, ← h2, ← h3]
theorem zfI (Y : ByteArray) : zbs Y 36 = zbs Y 32 ++ [T.int .i64 (wz Y 32 : Int), .int .i64 (wz Y 33 : Int), .int .i64 (wz Y 34 : Int), .int .i64 (wz Y 35 : Int)] := by
  rw [xg, xg, xg, xg]
  simp
set_option maxHeartbeats 4000000 in
theorem zaE (s : ByteArray) (hs : s.size ≤ 40000000) : Spec Try.prog 33 [.t (.str s)] [] (.t (.sl 1 (zbs (sha s) 36))) [] := by
  have hS := qJ s hs
  have hz := xm s
  generalize sha s = Y at hS hz ⊢
  refine wIG Try.func33 ?_
  repeat' (first | refine wC ?_ | refine wK ?_ | ((with_reducible refine zk ?_); refine wL hS ?_) | fail)
  refine zb (xv 4 (.loc 1000) 3 1 rfl rfl rfl) ?_
  refine zb (za [3, 4, 5, 10] [.loc 1000] rfl rfl) ?_
  refine zf (fun p env st => ∃ (j : Nat), j ≤ 32 ∧ p = 32 - j ∧
      env = EnvL.get [(3, .t (.str Y)), (4, .row (.loc 1000)), (5, .t (.int .i64 (y4 Y j : Int))), (10, .t (.int .i64 (j : Int)))] ∧ st = StO.get [(.loc 1000, some (.slt 3 1 (zbs Y j)))])
    ?_ (n := 32) ⟨0, by omega, rfl, rfl, rfl⟩
  rintro p env st ⟨j, hj, rfl, rfl, rfl⟩
  by_cases hlt : j < 32
  · have h1 := ix4 ⟨j, hlt⟩
    have h2 := sh4 ⟨j, hlt⟩
    have h3 := mn4 j
    have h4 := zek Y j hlt
    have h5 := qN Y j
    have h6 := qj Y j
    have h7 : IntKind.u64.wrap ((6 - 2 * (j % 4) : Nat) : Int) = ((6 - 2 * (j % 4) : Nat) : Int) := yv (by omega) (by omega)
    simp only at h1 h2
    repeat' (first | refine wC ?_ | (exfalso; omega) | refine wK ?_ | ((with_reducible refine zJ ?_); refine vM rfl rfl rfl rfl rfl rfl ?_ ?_) | ((with_reducible refine yf ?_); refine zy rfl rfl rfl rfl rfl rfl ?_ ?_ ?_) | ((with_reducible refine zQ ?_); refine zq rfl rfl rfl rfl rfl rfl rfl rfl rfl rfl ?_ ?_ ?_) | refine zm rfl ?_ ?_ <;> intro hc | fail)
    all_goals try simp only [h1, h2, h7, h3, h4, wX, List.length_singleton]
    all_goals try omega
    refine zv (n' := 32 - (j + 1)) (by omega) ((za [3, 4, 5, 10] [.loc 28] rfl rfl).trans (zo (.loc 28) (.loc 1000) rfl rfl rfl rfl)) ⟨j + 1, by omega, rfl, ?_, ?_⟩
    · try simp only [h1, h2, h7, h3, h4]
      have : y4 Y (j + 1) = y4 Y j + 3 - wz Y j := by rw [y4, wz, if_pos hlt]
      rw [this, zj (n := (y4 Y j : Int) + 3) (by omega) (by omega), zj (by omega) (by omega), zj (by omega) (by omega), show ((y4 Y j : Int) + 3 - (wz Y j : Int)) = ((y4 Y j + 3 - wz Y j : Nat) : Int) by omega]
      rfl
    · try simp only [h1, h2, h7, h3, h4]
      rw [xg]
      rfl
  · obtain rfl : j = 32 := by omega
    have h4 := zgM Y
    repeat' (first | refine wC ?_ | refine wK ?_ | ((with_reducible refine zQ ?_); refine zq rfl rfl rfl rfl rfl rfl rfl rfl rfl rfl ?_ ?_ ?_) | fail)
    · rw [wX]; simp only [List.length_cons, List.length_nil]; omega
    · rw [wX]; simp only [List.length_cons, List.length_nil]; omega
    refine zV (za [2] [.loc 47] rfl rfl) ?_
    refine zV (zz (id := .loc 47) rfl rfl rfl) ?_
    exact yI (zx (zd rfl rfl (congrArg (T.sl 1) ((congrArg (zbs Y 32 ++ ·) h4).trans (zfI Y).symm))) (zC trivial))
set_option maxHeartbeats 1000000 in
theorem zdT (v : ByteArray) (hv : v.size ≤ 1000000) (c p : Int) : Spec Try.prog 34 [.t (.str v), .t (.int .i64 c), .t (.int .i64 p)] [] (.t (.str (zaA v c p))) [] := by
  have hz := vm c p
  have hS := xy (v ++ vf c p) (by rw [ByteArray.size_append]; omega)
  unfold zaA
  generalize yu (v ++ vf c p) = Y at hS ⊢
  unfold vf at hS hz
  refine wI Try.func34 ?_
  repeat' (first | refine wC ?_ | refine wK ?_ | ((with_reducible refine zJ ?_); refine zI rfl rfl rfl rfl rfl rfl ?_ ?_) | ((with_reducible refine zN ?_); refine zw rfl rfl rfl rfl rfl rfl ?_ ?_) | ((with_reducible refine zk ?_); refine wL hS ?_) | fail)
  all_goals try exact zb2 _ _
  all_goals try omega
  exact zx (zd rfl rfl rfl) (by simp)
set_option maxHeartbeats 1000000 in
theorem za2 (c p : Int) : Spec Try.prog 74 [.t (.int .i64 c), .t (.int .i64 p)] [] (.t (.str (vf c p))) [] := by
  unfold vf
  refine wI Try.func74 ?_
  repeat' (first | refine wC ?_ | refine wK ?_ | ((with_reducible refine zN ?_); refine zw rfl rfl rfl rfl rfl rfl ?_ ?_) | fail)
  all_goals try exact zb2 _ _
  exact zx (zd rfl rfl rfl) (by simp)
set_option maxHeartbeats 1000000 in
theorem zc2 (v : ByteArray) (hv : v.size ≤ 1000000) (c p : Int) : Spec Try.prog 35 [.t (.str v), .t (.int .i64 c), .t (.int .i64 p)] [] (.t (.str (zaA v c p))) [] := by
  have hz := vm c p
  have hS := xQ (v ++ vf c p) (by rw [ByteArray.size_append]; omega)
  have hB := za2 c p
  unfold zaA
  generalize yu (v ++ vf c p) = Y at hS ⊢
  generalize vf c p = W at *
  refine wI Try.func35 ?_
  repeat' (first | refine wC ?_ | refine wK ?_ | ((with_reducible refine zJ ?_); refine zI rfl rfl rfl rfl rfl rfl ?_ ?_) | ((with_reducible refine zk ?_); first | refine wL hB ?_ | refine wL hS ?_) | fail)
  all_goals try omega
  exact zx (zd rfl rfl rfl) (by simp)
set_option maxHeartbeats 1000000 in
theorem zbA (v : ByteArray) (hv : v.size ≤ 1000000) (c : Int) : Spec Try.prog 36 [.t (.str v), .t (.int .i64 c)] [] (.t (.str (zf4 v c))) [] := by
  have hz := vm 128 c
  have hS := xy (v ++ vf 128 c) (by rw [ByteArray.size_append]; omega)
  unfold zf4
  generalize yu (v ++ vf 128 c) = Y at hS ⊢
  rw [← ze1, ← ByteArray.append_assoc] at hS
  have z1 : (⟨#[128]⟩ : ByteArray).size = 1 := rfl
  have z2 : (vZ [T.int .u8 (IntKind.u8.wrap c)]).size = 1 := x5 _
  refine wI Try.func36 ?_
  repeat' (first | refine wC ?_ | refine wK ?_ | ((with_reducible refine zJ ?_); refine zI rfl rfl rfl rfl rfl rfl ?_ ?_) | ((with_reducible refine zN ?_); refine zw rfl rfl rfl rfl rfl rfl ?_ ?_) | ((with_reducible refine zk ?_); refine wL hS ?_) | fail)
  all_goals try exact jy _
  all_goals try (simp only [ByteArray.size_append, z1, z2]; omega)
  exact zx (zd rfl rfl rfl) (by simp)
set_option maxHeartbeats 2000000 in
theorem zc5 (v : ByteArray) (hv : v.size ≤ 900000) (c : Int) (p n : Nat) (hp : p + n ≤ 1000) : Spec Try.prog 77 [.t (.str v), .t (.int .i64 c), .t (.int .i64 (p : Int)), .t (.int .i64 ((p + n : Nat) : Int))] [] (.t (.str (yl v c p n))) [] := by
  refine wI Try.func77 ?_
  repeat' (first | refine wC ?_ | refine wK ?_ | fail)
  refine zb (za [0, 1, 3, 9] [] rfl rfl) ?_
  refine zf (fun q env st => ∃ (j : Nat), j ≤ n ∧ q = n - j ∧
      env = EnvL.get [(0, .t (.str (yl v c p j))), (1, .t (.int .i64 c)), (3, .t (.int .i64 ((p + n : Nat) : Int))), (9, .t (.int .i64 ((p + j : Nat) : Int)))] ∧ st = StO.get [])
    ?_ (n := n) ⟨0, by omega, rfl, rfl, rfl⟩
  rintro q env st ⟨j, hj, rfl, rfl, rfl⟩
  have hz := jN v c p j
  by_cases hlt : j < n
  · have hS := zdT (yl v c p j) (by omega) c ((p + j : Nat) : Int)
    rw [show zaA (yl v c p j) c ((p + j : Nat) : Int) = yl v c p (j + 1) from rfl] at hS
    repeat' (first | refine wC ?_ | (exfalso; omega) | refine wK ?_ | ((with_reducible refine zk ?_); refine wL hS ?_) | refine zm rfl ?_ ?_ <;> intro hc | fail)
    refine zv (n' := n - (j + 1)) (by omega) (za [0, 1, 3, 9] [] rfl rfl) ⟨j + 1, by omega, rfl, ?_, rfl⟩
    rw [zj (by omega) (by omega), show ((p + j : Nat) : Int) + 1 = ((p + (j + 1) : Nat) : Int) by omega]
    rfl
  · obtain rfl : j = n := by omega
    repeat' (first | refine wC ?_ | (exfalso; omega) | refine wK ?_ | refine zm rfl ?_ ?_ <;> intro hc | fail)
    exact zx (zd rfl rfl rfl) (by simp)
set_option maxHeartbeats 2000000 in
theorem zc6 (v : ByteArray) (hv : v.size ≤ 900000) (c : Int) (p n : Nat) (hp : p + n ≤ 1000) : Spec Try.prog 76 [.t (.str v), .t (.int .i64 c), .t (.int .i64 (p : Int)), .t (.int .i64 ((p + n : Nat) : Int))] [] (.t (.str (yl v c p n))) [] := by
  refine wI Try.func76 ?_
  repeat' (first | refine wC ?_ | refine wK ?_ | fail)
  refine zb (za [0, 1, 3, 9] [] rfl rfl) ?_
  refine zf (fun q env st => ∃ (j : Nat), j ≤ n ∧ q = n - j ∧
      env = EnvL.get [(0, .t (.str (yl v c p j))), (1, .t (.int .i64 c)), (3, .t (.int .i64 ((p + n : Nat) : Int))), (9, .t (.int .i64 ((p + j : Nat) : Int)))] ∧ st = StO.get [])
    ?_ (n := n) ⟨0, by omega, rfl, rfl, rfl⟩
  rintro q env st ⟨j, hj, rfl, rfl, rfl⟩
  have hz := jN v c p j
  by_cases hlt : j < n
  · have hS := zc2 (yl v c p j) (by omega) c ((p + j : Nat) : Int)
    rw [show zaA (yl v c p j) c ((p + j : Nat) : Int) = yl v c p (j + 1) from rfl] at hS
    repeat' (first | refine wC ?_ | (exfalso; omega) | refine wK ?_ | ((with_reducible refine zk ?_); refine wL hS ?_) | refine zm rfl ?_ ?_ <;> intro hc | fail)
    refine zv (n' := n - (j + 1)) (by omega) (za [0, 1, 3, 9] [] rfl rfl) ⟨j + 1, by omega, rfl, ?_, rfl⟩
    rw [zj (by omega) (by omega), show ((p + j : Nat) : Int) + 1 = ((p + (j + 1) : Nat) : Int) by omega]
    rfl
  · obtain rfl : j = n := by omega
    repeat' (first | refine wC ?_ | (exfalso; omega) | refine wK ?_ | refine zm rfl ?_ ?_ <;> intro hc | fail)
    exact zx (zd rfl rfl rfl) (by simp)
def zdj (d : Nat → Nat) : List Int := (List.range 36).map (fun i => (d i : Int))
theorem zbQ (d : Nat → Nat) : (zdj d).length = 36 := by simp [zdj]
theorem zb6 (d : Nat → Nat) {j : Nat} (hj : j < 36) : (zdj d).getD (j : Int).toNat default = (d j : Int) := by
  simp [zdj, List.getD_eq_getElem?_getD, hj]
theorem jM (Y : ByteArray) : zbs Y 36 = (zdj (wz Y)).map (T.int .i64) := by simp [zbs, zdj, Function.comp_def]
def bst (q : Id) (t : Nat) (s : ByteArray) : Nat → StO
  | 0 => [(q, some (.var t [.t .nilp, .t .nilsl]))]
  | _ + 1 => [(q, some (.var t [.ref q 0 0 0, .row (.loc 901)])), (.loc 901, some (.slt 5 1 (zD s)))]
theorem zdu (v : ByteArray) (d : Nat → Nat) (j : Nat) : kA v d (j + 1) = kA v d j ++ zfq v d j := rfl
set_option maxHeartbeats 4000000 in
theorem j8 (v : ByteArray) (hv : v.size ≤ 900000) (d : Nat → Nat) (hd : ∀ i, d i < 4) : Spec Try.prog 75 [.t (.str v), .t (.sl 1 ((zdj d).map (T.int .i64)))] [] (.t (.str (kA v d 36))) [] := by
  have hlen := zbQ d
  refine wI Try.func75 ?_
  repeat' (first | refine wC ?_ | refine wK ?_ | fail)
  refine zb (za [0, 5, 8, 9, 10] [.loc 5] rfl rfl) ?_
  refine zf (fun q env st => ∃ (j : Nat), j ≤ 36 ∧ q = 36 - j ∧
      env = EnvL.get [(0, .t (.str v)), (5, .ref (.loc 5) 0 0 0), (8, .t (.sl 1 ((zdj d).map (T.int .i64)))), (9, .t (.int .i64 ((zdj d).length : Int))), (10, .t (.int .i64 (j : Int)))] ∧
      st = StO.get (bst (.loc 5) 102 (kA v d j) j))
    ?_ (n := 36) ⟨0, by omega, rfl, rfl, rfl⟩
  rintro q env st ⟨j, hj, rfl, rfl, rfl⟩
  rw [hlen]
  have hzj := qp v d j
  by_cases hlt : j < 36
  · have hg := zb6 d hlt
    have hd4 := hd j
    have hS1 := zbA v (by omega) (j : Int)
    have hz1 := zav v (j : Int)
    have hS2 := zc5 (zf4 v (j : Int)) (by omega) (j : Int) 0 (d j) (by omega)
    rw [show yl (zf4 v (j : Int)) (j : Int) 0 (d j) = zfq v d j from rfl, Nat.zero_add, ← hg] at hS2
    have hz2 := qq v d j
    have hsucc := zdu v d j
    generalize zf4 v (j : Int) = X at *
    cases j with
    | zero =>
      have e0 : kA v d 0 ++ zfq v d 0 = zfq v d 0 := ByteArray.empty_append
      rw [e0] at hsucc
      rw [← hsucc] at hS2 hz2
      have hw := jq (kA v d (0 + 1)) (by omega)
      unfold zfX zdi at hw
      repeat' (first | refine wC ?_ | refine wK ?_ | ((with_reducible refine ze ?_); refine zi rfl rfl rfl rfl rfl rfl ?_ ?_ ?_) | ((with_reducible refine zk ?_); first | refine wL hS1 ?_ | refine wL hS2 ?_ | refine wN (.tup [_, _]) [(.par 0, .loc 5), (.res 0, .loc 901)] hw ?_) | fail)
      all_goals try omega
      exact zv (n' := 36 - (0 + 1)) (by omega) (za [0, 5, 8, 9, 10] [.loc 5, .loc 901] rfl rfl) ⟨0 + 1, by omega, rfl, rfl, rfl⟩
    | succ k =>
      have hw := js (zD (kA v d (k + 1))) (zfq v d (k + 1)) (by rw [zW]; omega)
      rw [← ve, ← hsucc] at hw
      unfold za1 zdi at hw
      unfold bst
      repeat' (first | refine wC ?_ | (exfalso; omega) | refine wK ?_ | ((with_reducible refine ze ?_); refine zi rfl rfl rfl rfl rfl rfl ?_ ?_ ?_) | ((with_reducible refine zk ?_); first | refine wL hS1 ?_ | refine wL hS2 ?_ | refine wN (.tup [_, _]) [(.par 0, .loc 5), (.par 1, .loc 901), (.res 0, .loc 902)] hw ?_) | refine zm rfl ?_ ?_ <;> intro hc | fail)
      all_goals try omega
      refine zv (n' := 36 - (k + 1 + 1)) (by omega) ((za [0, 5, 8, 9, 10] [.loc 5, .loc 902] rfl rfl).trans (zo (.loc 902) (.loc 901) rfl rfl rfl rfl)) ⟨k + 1 + 1, by omega, rfl, by rw [zj (by omega) (by omega)]; rfl, rfl⟩
  · obtain rfl : j = 36 := by omega
    have hne : (kA v d 36).data.toList ≠ [] := by
      intro h
      have h3 := zK (kA v d 36)
      rw [h] at h3
      simp at h3; omega
    have hS := qm (kA v d 36).data.toList (by rw [zK]; omega) hne
    rw [we, ← xA] at hS
    unfold za1 at hS
    generalize kA v d 36 = X at hS ⊢
    unfold bst
    repeat' (first | refine wC ?_ | refine wK ?_ | ((with_reducible refine zk ?_); refine wN (.t (.str _)) [(.par 0, .loc 5), (.par 1, .loc 901)] hS ?_) | fail)
    exact zx (zd rfl rfl rfl) (by simp)
set_option maxHeartbeats 2000000 in
theorem zev (v m : ByteArray) (hv : v.size ≤ 900000) (hm : m.size ≤ 900000) : Spec Try.prog 41 [.t (.str v), .t (.str m)] [] (.t (.str (zdk v m))) [] := by
  have h1 := zbB m (by omega)
  have h2 := j8 v hv (wz (sha m)) (qN _)
  rw [jM] at h1
  unfold zdk
  generalize kA v (wz (sha m)) 36 = Y at h2 ⊢
  generalize zdj (wz (sha m)) = L at h1 h2
  refine wI Try.func41 ?_
  repeat' (first | refine wC ?_ | refine wK ?_ | ((with_reducible refine zk ?_); first | refine wL h1 ?_ | refine wL h2 ?_) | fail)
  exact zx (zd rfl rfl rfl) (by simp)
def zeF (j : Nat) : List T := (List.range 36).map (fun i => T.int .i64 (if i < j then 3 else 0))
theorem zfc (j : Nat) (hj : j < 36) : (zeF j).set (j : Int).toNat (.int .i64 3) = zeF (j + 1) := by
  apply List.ext_getElem
  · simp [zeF]
  · intro i h1 h2
    simp only [zeF, List.length_set, List.length_map, List.length_range] at h1
    simp only [zeF, List.getElem_set, List.getElem_map, List.getElem_range, Int.toNat_natCast]
    by_cases h : j = i
    · subst h; rw [if_pos rfl, if_pos (by omega)]
    · rw [if_neg h]
      by_cases h' : i < j
      · rw [if_pos h', if_pos (by omega)]
      · rw [if_neg h', if_neg (by omega)]
theorem zeA : zeF 36 = (zdj (fun _ => 3)).map (T.int .i64) := rfl
set_option maxHeartbeats 2000000 in
theorem zbG (v : ByteArray) (hv : v.size ≤ 900000) : Spec Try.prog 38 [.t (.str v)] [] (.t (.str (zca v))) [] := by
  have h2 := j8 v hv (fun _ => 3) (fun _ => by omega)
  have hz := qp v (fun _ => 3) 36
  have hS := xy (kA v (fun _ => 3) 36) (by omega)
  unfold zca
  generalize yu (kA v (fun _ => 3) 36) = Y at hS ⊢
  generalize kA v (fun _ => 3) 36 = W at *
  rw [← zeA] at h2
  refine wI Try.func38 ?_
  repeat' (first | refine wC ?_ | refine wK ?_ | ((with_reducible refine yJ ?_); refine yB (zT := .int _ _) rfl rfl rfl rfl rfl rfl rfl rfl rfl ?_ ?_ ?_ ?_ ?_) | fail)
  all_goals try decide
  refine zb (za [0, 3, 7, 8] [.loc 5] rfl rfl) ?_
  refine zf (fun q env st => ∃ (j : Nat), j ≤ 36 ∧ q = 36 - j ∧
      env = EnvL.get [(0, .t (.str v)), (3, .row (.loc 5)), (7, .t (.int .i64 36)), (8, .t (.int .i64 (j : Int)))] ∧
      st = StO.get [(.loc 5, some (.slt 3 1 (zeF j)))])
    ?_ (n := 36) ⟨0, by omega, rfl, rfl, rfl⟩
  rintro q env st ⟨j, hj, rfl, rfl, rfl⟩
  have hlen : (zeF j).length = 36 := by simp [zeF]
  by_cases hlt : j < 36
  · have hset := zfc j hlt
    repeat' (first | refine wC ?_ | (exfalso; omega) | refine wK ?_ | ((with_reducible refine yS ?_); refine xp rfl rfl rfl rfl rfl rfl ?_ ?_ ?_) | ((with_reducible refine ze ?_); refine yx rfl rfl rfl rfl rfl rfl rfl ?_ ?_ ?_) | refine zm rfl ?_ ?_ <;> intro hc | fail)
    all_goals try omega
    · rfl
    refine zv (n' := 36 - (j + 1)) (by omega) (za [0, 3, 7, 8] [.loc 5] rfl rfl) ⟨j + 1, by omega, rfl, by rw [zj (by omega) (by omega)]; rfl, ?_⟩
    rw [← hset]; rfl
  · obtain rfl : j = 36 := by omega
    refine zb (zz (id := .loc 5) rfl rfl rfl) ?_
    repeat' (first | refine wC ?_ | refine wK ?_ | ((with_reducible refine zk ?_); first | refine wL h2 ?_ | refine wL hS ?_) | fail)
    all_goals exact zx (zd rfl rfl rfl) (by simp)
theorem zdN (d : Nat → Nat) (w : ByteArray) (j : Nat) : zex d w (j + 1) = zex d w j ++ zgt d w j := rfl
def zhe (w : ByteArray) : Int := if w.size = 576 then 0 else 8
def zg1 (m w : ByteArray) : ByteArray := if w.size = 576 then zg3 m w else ⟨#[]⟩
set_option maxHeartbeats 4000000 in
theorem kV (m w : ByteArray) (hm : m.size ≤ 900000) (hw : w.size ≤ 900000) : Spec Try.prog 44 [.t (.str m), .t (.str w)] [] (.tup [.t (.str (zg1 m w)), .t (.int .i64 (zhe w))]) [] := by
  unfold zg1 zhe
  by_cases h0 : w.size = 576
  · rw [if_pos h0, if_pos h0]
    have h0' : (w.size : Int) = 576 := by omega
    have h1 := zaE m (by omega)
    rw [jM] at h1
    unfold zg3
    have hd := qN (sha m)
    generalize wz (sha m) = d at h1 hd ⊢
    have hlen := zbQ d
    have hze := qW (d := d) (w := w) 36 (by omega)
    have hSh := xQ (zex d w 36) (by omega)
    generalize yu (zex d w 36) = Y at hSh ⊢
    refine wI Try.func44 ?_
    repeat' (first | refine wC ?_ | (exfalso; omega) | refine wK ?_ | ((with_reducible refine zk ?_); refine wL h1 ?_) | refine yH rfl ?_ ?_ <;> intro hc | fail)
    refine zb (za [1, 6, 13, 14, 15] [] rfl rfl) ?_
    refine zf (fun q env st => ∃ (j : Nat), j ≤ 36 ∧ q = 36 - j ∧
        env = EnvL.get [(1, .t (.str w)), (6, .t (.str (zex d w j))), (13, .t (.sl 1 ((zdj d).map (T.int .i64)))), (14, .t (.int .i64 36)), (15, .t (.int .i64 (j : Int)))] ∧ st = StO.get [])
      ?_ (n := 36) ⟨0, by omega, rfl, rfl, rfl⟩
    rintro q env st ⟨j, hj, rfl, rfl, rfl⟩
    have hzj := qW (d := d) (w := w) j (by omega)
    by_cases hlt : j < 36
    · have hg := zb6 d hlt
      have hd4 := hd j
      have hex : (w.extract (16 * j) (16 * (j + 1))).size = 16 := by rw [ByteArray.size_extract]; omega
      have hS2 := zc6 (w.extract (16 * j) (16 * (j + 1))) (by omega) (j : Int) (d j) (3 - d j) (by omega)
      rw [show yl (w.extract (16 * j) (16 * (j + 1))) (j : Int) (d j) (3 - d j) = zgt d w j from rfl, show d j + (3 - d j) = 3 by omega, ← hg] at hS2
      have hz2 : (zgt d w j).size = 16 := jP (by omega)
      have hsucc := zdN d w j
      have i1 : IntKind.i64.wrap ((j : Int) * 16) = ((16 * j : Nat) : Int) := by rw [zj (by omega) (by omega)]; omega
      have i2 : IntKind.i64.wrap ((j : Int) + 1) = ((j + 1 : Nat) : Int) := by rw [zj (by omega) (by omega)]; omega
      have i3 : IntKind.i64.wrap (((j + 1 : Nat) : Int) * 16) = ((16 * (j + 1) : Nat) : Int) := by rw [zj (by omega) (by omega)]; omega
      have e1 : w.extract (IntKind.i64.wrap ((j : Int) * 16)).toNat (IntKind.i64.wrap (IntKind.i64.wrap ((j : Int) + 1) * 16)).toNat = w.extract (16 * j) (16 * (j + 1)) := by rw [i2, i1, i3]; rfl
      rw [← e1] at hS2
      repeat' (first | refine wC ?_ | (exfalso; omega) | refine wK ?_ | ((with_reducible refine zJ ?_); refine zI rfl rfl rfl rfl rfl rfl ?_ ?_) | ((with_reducible refine ze ?_); refine zi rfl rfl rfl rfl rfl rfl ?_ ?_ ?_) | ((with_reducible refine yn ?_); refine zr rfl rfl ⟨_, rfl⟩ ⟨_, rfl⟩ rfl rfl rfl ?_ ?_ ?_ ?_) | ((with_reducible refine zk ?_); refine wL hS2 ?_) | refine zm rfl ?_ ?_ <;> intro hc | fail)
      all_goals try (simp only [i1, i2, i3]; omega)
      all_goals try omega
      refine zv (n' := 36 - (j + 1)) (by omega) (za [1, 6, 13, 14, 15] [] rfl rfl) ⟨j + 1, by omega, rfl, ?_, rfl⟩
      rw [hsucc, i2]; rfl
    · obtain rfl : j = 36 := by omega
      generalize zex d w 36 = X at *
      repeat' (first | refine wC ?_ | refine wK ?_ | ((with_reducible refine zk ?_); refine wL hSh ?_) | fail)
      exact zx (yo rfl rfl rfl rfl rfl) (by simp)
  · rw [if_neg h0, if_neg h0]
    have h0' : (w.size : Int) ≠ 576 := by omega
    refine wI Try.func44 ?_
    repeat' (first | refine wC ?_ | (exfalso; omega) | refine wK ?_ | refine yH rfl ?_ ?_ <;> intro hc | fail)
    exact zx (yo rfl rfl rfl rfl rfl) (by simp)
end Go.AL
namespace Go.AL
open Go Go.RowKit
def xq : ByteArray := ⟨#[65, 66, 67, 68, 69, 70, 71, 72, 73, 74, 75, 76, 77, 78, 79, 80, 81, 82, 83, 84, 85, 86, 87, 88, 89, 90, 97, 98, 99, 100, 101, 102, 103, 104, 105, 106, 107, 108, 109, 110, 111, 112, 113, 114, 115, 116, 117, 118, 119, 120, 121, 122, 48, 49, 50, 51, 52, 53, 54, 55, 56, 57, 45, 95]⟩
abbrev w64 (n : Int) : Int := IntKind.i64.wrap n
abbrev zfl (a b : Int) : Int := w64 ((BitVec.ofInt 64 a ||| BitVec.ofInt 64 b).toNat : Int)
abbrev zay (a b : Int) : Int := w64 ((BitVec.ofInt 64 a &&& BitVec.ofInt 64 b).toNat : Int)
theorem zbS (x : Int) : 0 ≤ zay x 63 ∧ zay x 63 < 64 := by
  have h : (BitVec.ofInt 64 x &&& BitVec.ofInt 64 63).toNat ≤ 63 := by
    rw [BitVec.toNat_and]
    exact Nat.le_trans Nat.and_le_right (by decide)
  unfold zay w64
  rw [zj (by omega) (by omega)]
  omega
theorem zdZ (n : Nat) (hn : n ≤ 62) {a b : Int} (ha0 : 0 ≤ a) (ha : a < 2 ^ n) (hb0 : 0 ≤ b) (hb : b < 2 ^ n) : 0 ≤ zfl a b ∧ zfl a b < 2 ^ n := by
  have hp : (2 : Int) ^ n ≤ 2 ^ 62 := by
    have : (2 : Nat) ^ n ≤ 2 ^ 62 := Nat.pow_le_pow_right (by omega) hn
    exact_mod_cast this
  have h1 : (BitVec.ofInt 64 a).toNat = a.toNat := by
    rw [BitVec.toNat_ofInt]
    congr 1
    omega
  have h2 : (BitVec.ofInt 64 b).toNat = b.toNat := by
    rw [BitVec.toNat_ofInt]
    congr 1
    omega
  have h : (BitVec.ofInt 64 a ||| BitVec.ofInt 64 b).toNat < 2 ^ n := by
    rw [BitVec.toNat_or, h1, h2]
    refine Nat.or_lt_two_pow ?_ ?_
    · have : ((a.toNat : Nat) : Int) < ((2 ^ n : Nat) : Int) := by rw [Int.toNat_of_nonneg ha0]; exact_mod_cast ha
      exact_mod_cast this
    · have : ((b.toNat : Nat) : Int) < ((2 ^ n : Nat) : Int) := by rw [Int.toNat_of_nonneg hb0]; exact_mod_cast hb
      exact_mod_cast this
  have h' : ((BitVec.ofInt 64 a ||| BitVec.ofInt 64 b).toNat : Int) < 2 ^ n := by exact_mod_cast h
  unfold zfl w64
  rw [zj (by omega) (by omega)]
  exact ⟨by omega, h'⟩
theorem ko (s : ByteArray) (i : Int) : 0 ≤ bAt s i ∧ bAt s i ≤ 255 := by
  unfold bAt
  have := (s.data.toList.getD i.toNat 0).toNat_lt
  omega
def n24 (a b c : Int) : Int := zfl (zfl (w64 (w64 a * 2 ^ min (16 : Int).toNat 64)) (w64 (w64 b * 2 ^ min (8 : Int).toNat 64))) (w64 c)
theorem zaB {a b c : Int} (ha : 0 ≤ a ∧ a ≤ 255) (hb : 0 ≤ b ∧ b ≤ 255) (hc : 0 ≤ c ∧ c ≤ 255) : 0 ≤ n24 a b c ∧ n24 a b c < 16777216 := by
  have e1 : (2 : Int) ^ min (16 : Int).toNat 64 = 65536 := by decide
  have e2 : (2 : Int) ^ min (8 : Int).toNat 64 = 256 := by decide
  unfold n24
  rw [e1, e2]
  unfold w64
  rw [zj (n := a) (by omega) (by omega), zj (n := b) (by omega) (by omega), zj (n := c) (by omega) (by omega), zj (n := a * 65536) (by omega) (by omega), zj (n := b * 256) (by omega) (by omega)]
  have h1 := zdZ 24 (by decide) (a := a * 65536) (b := b * 256) (by omega) (by omega) (by omega) (by omega)
  exact zdZ 24 (by decide) h1.1 h1.2 (by omega) (by omega)
def zgo (n : Int) : List T := [.int .u8 (bAt xq (n / 2 ^ min (18 : Int).toNat 64)), .int .u8 (bAt xq (zay (n / 2 ^ min (12 : Int).toNat 64) 63)), .int .u8 (bAt xq (zay (n / 2 ^ min (6 : Int).toNat 64) 63)), .int .u8 (bAt xq (zay n 63))]
theorem zfO (n : Int) : IsU8 (zgo n) := by
  intro e he
  simp [zgo] at he
  rcases he with rfl | rfl | rfl | rfl <;> rfl
theorem zcN : (xq.size : Int) = 64 := by decide
theorem jL {n : Int} (h : 0 ≤ n ∧ n < 16777216) : 0 ≤ n / 2 ^ min (18 : Int).toNat 64 ∧ n / 2 ^ min (18 : Int).toNat 64 < 64 := by
  have e1 : (2 : Int) ^ min (18 : Int).toNat 64 = 262144 := by decide
  rw [e1]
  omega
def zd2 : Nat → ByteArray → List T
  | 0, _ => []
  | k + 1, s => zgo (n24 (bAt s 0) (bAt s 1) (bAt s 2)) ++ zd2 k (s.extract 3 s.size)
theorem qP : ∀ (k : Nat) (s : ByteArray), (zd2 k s).length = 4 * k
  | 0, _ => rfl
  | k + 1, s => by simp [zd2, qP k, zgo]; omega
theorem zfb (r : ByteArray) : r = ⟨#[]⟩ ∨ 0 < r.size := by
  by_cases h : r.size = 0
  · left
    obtain ⟨d⟩ := r
    have : d.size = 0 := h
    simp [Array.eq_empty_of_size_eq_zero this]
  · exact .inr (by omega)
theorem IsU8.append {xs ys : List T} (h1 : IsU8 xs) (h2 : IsU8 ys) : IsU8 (xs ++ ys) := fun e he => by
  rcases List.mem_append.1 he with h | h
  · exact h1 e h
  · exact h2 e h
def xn (s : ByteArray) : ByteArray × Int :=
  if 65536 < (s.size : Int) then (⟨#[]⟩, 3) else if (s.size : Int).tmod 3 ≠ 0 then (⟨#[]⟩, 8) else (vZ (zd2 (s.size / 3) s), 0)
end Go.AL
namespace Go.AL
open Go Go.Proofs Go.RowKit
set_option maxHeartbeats 2000000 in
theorem zbf (s : ByteArray) (hs : s.size ≤ 9223372036854775807) : Spec Try.prog 92 [.t (.str s)] [] (.tup [.t (.str (xn s).1), .t (.int .i64 (xn s).2)]) [] := by
  refine wI Try.func92 ?_
  repeat' (first | refine wC ?_ | refine wK ?_ | ((with_reducible refine yJ ?_); refine yB (zT := .int _ _) rfl rfl rfl rfl rfl rfl rfl rfl rfl ?_ ?_ ?_ ?_ ?_) | refine zm rfl ?_ ?_ <;> intro hc | refine yH rfl ?_ ?_ <;> intro hc | fail)
  case' refine_1 =>
    refine zx (yo rfl rfl rfl ?_ ?_) (by simp) <;> simp [xn, hc]
  case' refine_2.refine_2 =>
    refine zx (yo rfl rfl rfl ?_ ?_) (by simp) <;> simp [xn, *]
  all_goals
    have q1 : (s.size : Int).tdiv 3 = ((s.size / 3 : Nat) : Int) := rfl
    have q3 : (s.size : Int).tmod 3 = ((s.size % 3 : Nat) : Int) := rfl
    rw [q3] at hc
    have q0 : 3 * (s.size / 3) = s.size := by omega
    have q2 : IntKind.i64.wrap (IntKind.i64.wrap ((s.size : Int).tdiv 3) * 4) = (4 * (s.size / 3) : Nat) := by
      rw [q1, zj (n := ((s.size / 3 : Nat) : Int)) (by omega) (by omega), zj (by omega) (by omega)]
      omega
  case' refine_2.refine_1.refine_1 => decide
  case' refine_2.refine_1.refine_2 => omega
  case' refine_2.refine_1.refine_3 => omega
  case' refine_2.refine_1.refine_4 => omega
  refine zb (za [0, 2, 3, 4] [.loc 19] rfl rfl) ?_
  refine zf (fun n env st => ∃ (k : Nat) (r : ByteArray) (es : List T), r.size = 3 * k ∧ n = k ∧ IsU8 es ∧ es.length + 4 * k = 4 * (s.size / 3) ∧ es ++ zd2 k r = zd2 (s.size / 3) s ∧
      env = EnvL.get [(0, .t (.str r)), (2, .t (.str ⟨#[]⟩)), (3, .t (.int .i64 0)), (4, .row (.loc 19))] ∧ st = StO.get [(.loc 19, some (.slt 5 1 es))]) ?_ (n := s.size / 3) ⟨s.size / 3, s, _, by omega, rfl, ?_, ?_, ?_, rfl, rfl⟩
  · rintro n env st ⟨k, r, es, hr, rfl, hu, hl, he, rfl, rfl⟩
    have hz := zfb r
    repeat' (first | refine wC ?_ | refine wK ?_ | ((with_reducible refine yf ?_); refine zy rfl rfl rfl rfl rfl rfl ?_ ?_ ?_) | ((with_reducible refine zN ?_); refine zw rfl rfl rfl rfl rfl rfl ?_ ?_) | ((with_reducible refine yn ?_); refine zr rfl rfl ⟨_, rfl⟩ rfl rfl rfl rfl ?_ ?_ ?_ ?_) | ((with_reducible refine zQ ?_); refine zq rfl rfl rfl rfl rfl rfl rfl rfl rfl rfl ?_ ?_ ?_) | refine yH rfl ?_ ?_ <;> intro hc | fail)
    all_goals try have hp := hz.resolve_left hc
    all_goals try first | omega | exact hu | exact (jL (zaB (ko _ _) (ko _ _) (ko _ _))).1 | exact (jL (zaB (ko _ _) (ko _ _) (ko _ _))).2 | exact (zbS _).1 | exact (zbS _).2 | (simp only [List.length_cons, List.length_nil]; omega)
    · subst hc
      have hn : n = 0 := by
        have : 0 = 3 * n := hr
        omega
      subst hn
      simp [zd2] at he
      subst he
      refine zx (yo rfl rfl rfl ?_ ?_) (by simp) <;> simp [xn, *]
    · obtain ⟨m, rfl⟩ : ∃ m, n = m + 1 := ⟨n - 1, by omega⟩
      refine zv (n' := m) (by omega) ((za [0, 2, 3, 4] [.loc 53] rfl rfl).trans (zo (.loc 53) (.loc 19) rfl rfl rfl rfl)) ⟨m, _, _, ?_, rfl, ?_, ?_, ?_, rfl, rfl⟩
      · simp [ByteArray.size_extract]; omega
      · exact hu.append (zfO _)
      · simp; omega
      · rw [List.append_assoc]; exact he
  · intro e he; simp at he
  · simp
  · simp
def frm (k : Int) (s : ByteArray) (n : Int) : T × T := (.int .i64 k, .agg [.str s, .int .i64 n])
def zgy : List (T × T) := [frm 1 ⟨#[69]⟩ 32, frm 2 ⟨#[68]⟩ 32, frm 3 ⟨#[66]⟩ 32, frm 4 ⟨#[65]⟩ 32, frm 5 ⟨#[48, 65]⟩ 16, frm 6 ⟨#[77]⟩ 2, frm 7 ⟨#[83]⟩ 626, frm 8 ⟨#[49, 65, 65, 76]⟩ 6]
set_option maxHeartbeats 2000000 in
theorem zcs : Spec Try.prog 59 [] [] (.row (.res 0)) [(.res 0, .dat (.map zgy))] := by
  refine wIG Try.func59 ?_
  repeat' (first | refine wC ?_ | refine wK ?_ | ((with_reducible refine zeH ?_); refine zdC rfl rfl rfl rfl rfl rfl rfl rfl ?_ ?_) | fail)
  all_goals try rfl
  refine zV (za [0] [.loc 1] rfl rfl) ?_
  refine zV (zo (.loc 1) (.res 0) rfl rfl rfl rfl) ?_
  exact yI (zx (xk rfl (AVLE.of_eq rfl)) (zC ⟨rfl, trivial⟩))
def Dc.row (d : Dc) : Row := .var 113 [.t (.sl 1 (d.l.map (T.int .i64))), .t (.int .i64 d.k)]
def zgO (x : Int) : ByteArray := if x = 1 then ⟨#[69]⟩ else if x = 2 then ⟨#[68]⟩ else if x = 3 then ⟨#[66]⟩ else if x = 4 then ⟨#[65]⟩ else if x = 5 then ⟨#[48, 65]⟩ else if x = 6 then ⟨#[77]⟩ else if x = 7 then ⟨#[83]⟩ else if x = 8 then ⟨#[49, 65, 65, 76]⟩ else ⟨#[]⟩
def qi (x : Int) : Int := if x = 1 then 32 else if x = 2 then 32 else if x = 3 then 32 else if x = 4 then 32 else if x = 5 then 16 else if x = 6 then 2 else if x = 7 then 626 else if x = 8 then 6 else 0
theorem to9 {x : Int} (h0 : 0 ≤ x) (h1 : x ≤ 9) : x = 0 ∨ x = 1 ∨ x = 2 ∨ x = 3 ∨ x = 4 ∨ x = 5 ∨ x = 6 ∨ x = 7 ∨ x = 8 ∨ x = 9 := by omega
set_option maxHeartbeats 2000000 in
theorem zeo (c : ByteArray) (n : Int) (h0 : 0 ≤ n) (h1 : n ≤ 1000) : Spec Try.prog 91 [.t (.agg [.str c, .int .i64 n])] [] (.t (.int .i64 ((3 - n % 3) % 3))) [] := by
  have e1 : n.tmod 3 = n % 3 := Int.tmod_eq_emod_of_nonneg h0
  have e2 : (3 - n % 3).tmod 3 = (3 - n % 3) % 3 := Int.tmod_eq_emod_of_nonneg (by omega)
  have w1 : IntKind.i64.wrap (3 - n % 3) = 3 - n % 3 := zj (by omega) (by omega)
  refine wI Try.func91 ?_
  repeat' (first | refine wC ?_ | refine wK ?_ | fail)
  refine zx (zd rfl rfl ?_) (by simp)
  rw [e1, w1, e2]
theorem zg8 (h : Heap) : RepT h (.agg #[.string ⟨#[]⟩, .int .i64 0]) (.agg [.str ⟨#[]⟩, .int .i64 0]) := ⟨_, rfl, rfl, ⟨_, rfl, rfl, rfl⟩, ⟨_, rfl, rfl, rfl⟩, trivial⟩
def okB (x : Int) : Bool := decide (1 ≤ x ∧ x ≤ 8)
def ldS (n : Int) : Int := (3 - n % 3) % 3
def szF (c : ByteArray) (n : Int) : Int := (c.size : Int) + (n + ldS n) / 3 * 4 - ldS n
def zg5 (x : Int) : Int := if okB x = true then szF (zgO x) (qi x) else 0
theorem zdm (x : Int) : (zgO x).size ≤ 4 := by unfold zgO; (repeat' split) <;> decide
theorem kL (x : Int) : 0 ≤ qi x ∧ qi x ≤ 626 := by unfold qi; (repeat' split) <;> decide
def zbe (c : Nat) : ByteArray := ⟨(Lib.repeatL (⟨#[0]⟩ : ByteArray).data.toList c).toArray⟩
theorem jZ (c : Nat) : (zbe c).size = c := by
  unfold zbe
  have : ∀ c, (Lib.repeatL ([0] : List UInt8) c).length = c := fun c => by
    induction c with
    | zero => rfl
    | succ c ih => simp only [Lib.repeatL, List.length_append, ih, List.length_singleton]; omega
  rw [ByteArray.size, List.size_toArray]
  exact this c
def kF (x : Int) (r : ByteArray) : ByteArray := zgO x ++ (xn (zbe (ldS (qi x)).toNat ++ r)).1.extract (ldS (qi x)).toNat (xn (zbe (ldS (qi x)).toNat ++ r)).1.size
theorem zai (n : Int) : 0 ≤ ldS n ∧ ldS n ≤ 2 := by unfold ldS; omega
theorem zfr (s : ByteArray) (hs : s.size ≤ 65536) (h3 : s.size % 3 = 0) : (xn s).2 = 0 ∧ (xn s).1.size = 4 * (s.size / 3) := by
  have q3 : (s.size : Int).tmod 3 = ((s.size % 3 : Nat) : Int) := rfl
  unfold xn
  rw [if_neg (by omega), if_neg (by rw [q3, h3]; simp)]
  refine ⟨rfl, ?_⟩
  show (vZ (zd2 (s.size / 3) s)).size = _
  unfold vZ
  rw [strOfNums_size, List.length_map, qP]
set_option maxHeartbeats 8000000 in
theorem zbH (x : Int) (h0 : 1 ≤ x) (h1 : x ≤ 8) (r : ByteArray) (hr : (r.size : Int) = qi x) : Spec Try.prog 61 [.t (.agg [.int .i64 x, .str r])] [] (.tup [.t (.str (kF x r)), .t (.int .i64 0)]) [] := by
  have hF := zcs
  unfold zgy frm at hF
  have hrr := kL x
  have hL := zeo (zgO x) (qi x) hrr.1 (by omega)
  rw [show (3 - qi x % 3) % 3 = ldS (qi x) from rfl] at hL
  have hl := zai (qi x)
  have hl3 : (ldS (qi x) + qi x) % 3 = 0 := by unfold ldS; omega
  unfold kF
  have hcs := zdm x
  obtain ⟨d, hd⟩ : ∃ d : Nat, ldS (qi x) = d := ⟨(ldS (qi x)).toNat, by omega⟩
  rw [hd] at hL hl hl3 ⊢
  rw [Int.toNat_natCast]
  have hR := qB ⟨#[0]⟩ d (by omega) (by show 1 * d ≤ _; omega)
  rw [show (⟨(Lib.repeatL (⟨#[0]⟩ : ByteArray).data.toList d).toArray⟩ : ByteArray) = zbe d from rfl] at hR
  have hzz := jZ d
  generalize zbe d = Z at hR hzz ⊢
  have hzs : (Z ++ r).size = d + r.size := by rw [ByteArray.size_append, hzz]
  have hB := zbf (Z ++ r) (by omega)
  obtain ⟨b1, b2⟩ := zfr (Z ++ r) (by omega) (by omega)
  rw [b1] at hB
  generalize (xn (Z ++ r)).1 = E at hB b2 ⊢
  have hEx : ∀ a b, (E.extract a b).size ≤ 100000 := fun a b => by rw [ByteArray.size_extract]; omega
  rcases to9 (by omega : 0 ≤ x) (by omega) with rfl | rfl | rfl | rfl | rfl | rfl | rfl | rfl | rfl | rfl
  · omega
  all_goals try (exfalso; omega)
  all_goals
    have hr' : (r.size : Int) = _ := hr
    refine wI Try.func61 ?_
    repeat' (first | refine wC ?_ | refine zaq (zT := .agg [.str ⟨#[]⟩, .int .i64 0]) rfl rfl rfl zg8 rfl rfl rfl rfl rfl rfl ?_ | refine wK ?_ | ((with_reducible refine zJ ?_); refine zI rfl rfl rfl rfl rfl rfl ?_ ?_) | ((with_reducible refine yn ?_); refine zr rfl rfl ⟨_, rfl⟩ rfl rfl rfl rfl ?_ ?_ ?_ ?_) | ((with_reducible refine zk ?_); first | refine wN (.row (.loc 900)) [(.res 0, .loc 900)] hF ?_ | refine wL hL ?_ | refine wL hR ?_ | refine wL hB ?_) | refine yH rfl ?_ ?_ <;> intro hc | fail)
    all_goals try omega
    all_goals try (exact absurd hr hc)
    · exact Nat.le_trans (Nat.add_le_add hcs (hEx _ _)) (by decide)
    · exact zx (yo rfl rfl rfl rfl rfl) (by simp)
theorem zee (x : Int) (h0 : 1 ≤ x) (h1 : x ≤ 8) (r : ByteArray) (hr : (r.size : Int) = qi x) : Spec Try.prog 18 [.t (.int .i64 x), .t (.str r)] [] (.t (.str (kF x r))) [] := by
  have hE := zbH x h0 h1 r hr
  generalize kF x r = Y at hE ⊢
  refine wI Try.func18 ?_
  repeat' (first | refine wC ?_ | refine wK ?_ | ((with_reducible refine zk ?_); refine wL hE ?_) | fail)
  exact zx (zd rfl rfl rfl) (by simp)
theorem zdp (x : Int) (h0 : 1 ≤ x) (h1 : x ≤ 8) (r : ByteArray) (hr : (r.size : Int) = qi x) : ((kF x r).size : Int) = zg5 x := by
  have hl := zai (qi x)
  have hrr := kL x
  have hl3 : (ldS (qi x) + qi x) % 3 = 0 := by unfold ldS; omega
  have hzz := jZ (ldS (qi x)).toNat
  have hok : okB x = true := decide_eq_true ⟨h0, h1⟩
  unfold kF zg5 szF
  rw [if_pos hok]
  generalize ldS (qi x) = d at *
  generalize zbe d.toNat = Z at *
  have hzs : (Z ++ r).size = d.toNat + r.size := by rw [ByteArray.size_append, hzz]
  obtain ⟨b1, b2⟩ := zfr (Z ++ r) (by omega) (by omega)
  generalize (xn (Z ++ r)).1 = E at *
  rw [ByteArray.size_append, ByteArray.size_extract]
  omega
set_option maxHeartbeats 1000000 in
theorem qK (s : ByteArray) (u : Int) (hs : s.size ≤ 900000) : Spec Try.prog 107 [.t (.str s), .t (.int .i64 u)] [] (.t (.str (vN s u))) [] := by
  have z := qf u
  have hS := vg (s ++ byS u) (by rw [ByteArray.size_append]; omega)
  unfold vN
  generalize sha (s ++ byS u) = Y at hS ⊢
  unfold byS at hS z
  refine wI Try.func107 ?_
  repeat' (first | refine wC ?_ | refine wK ?_ | ((with_reducible refine zJ ?_); refine zI rfl rfl rfl rfl rfl rfl ?_ ?_) | ((with_reducible refine zN ?_); refine zw rfl rfl rfl rfl rfl rfl ?_ ?_) | ((with_reducible refine zk ?_); refine wL hS ?_) | fail)
  all_goals try exact jy _
  all_goals try omega
  exact zx (zd rfl rfl rfl) (by simp)
set_option maxHeartbeats 1000000 in
theorem zbv (p : ByteArray) (hp : p.size ≤ 900000) : Spec Try.prog 131 [.t (.str p)] [] (.t (.str (zg0 p))) [] := by
  have z : (⟨#[0]⟩ : ByteArray).size = 1 := rfl
  have hS := xy (⟨#[0]⟩ ++ p) (by rw [ByteArray.size_append]; omega)
  unfold zg0
  generalize yu (⟨#[0]⟩ ++ p) = Y at hS ⊢
  refine wI Try.func131 ?_
  repeat' (first | refine wC ?_ | refine wK ?_ | ((with_reducible refine zJ ?_); refine zI rfl rfl rfl rfl rfl rfl ?_ ?_) | ((with_reducible refine zk ?_); refine wL hS ?_) | fail)
  all_goals try omega
  exact zx (zd rfl rfl rfl) (by simp)
set_option maxHeartbeats 1000000 in
theorem vt (a b : ByteArray) (ha : a.size ≤ 1000) (hb : b.size ≤ 1000) : Spec Try.prog 120 [.t (.str a), .t (.str b)] [] (.t (.str (zct a b))) [] := by
  have z : (⟨#[1]⟩ : ByteArray).size = 1 := rfl
  have z2 : (⟨#[1]⟩ ++ a : ByteArray).size = 1 + a.size := by rw [ByteArray.size_append, z]
  have hS := xy (⟨#[1]⟩ ++ a ++ b) (by rw [ByteArray.size_append]; omega)
  unfold zct
  generalize yu (⟨#[1]⟩ ++ a ++ b) = Y at hS ⊢
  refine wI Try.func120 ?_
  repeat' (first | refine wC ?_ | refine wK ?_ | ((with_reducible refine zJ ?_); refine zI rfl rfl rfl rfl rfl rfl ?_ ?_) | ((with_reducible refine zk ?_); refine wL hS ?_) | fail)
  all_goals try omega
  exact zx (zd rfl rfl rfl) (by simp)
set_option maxHeartbeats 1000000 in
theorem y9 (a b : ByteArray) (ha : a.size ≤ 1000) (hb : b.size ≤ 1000) : Spec Try.prog 103 [.t (.str a), .t (.str b)] [] (.t (.str (zct a b))) [] := by
  have z : (⟨#[1]⟩ : ByteArray).size = 1 := rfl
  have z2 : (⟨#[1]⟩ ++ a : ByteArray).size = 1 + a.size := by rw [ByteArray.size_append, z]
  have hS := xQ (⟨#[1]⟩ ++ a ++ b) (by rw [ByteArray.size_append]; omega)
  unfold zct
  generalize yu (⟨#[1]⟩ ++ a ++ b) = Y at hS ⊢
  refine wI Try.func103 ?_
  repeat' (first | refine wC ?_ | refine wK ?_ | ((with_reducible refine zJ ?_); refine zI rfl rfl rfl rfl rfl rfl ?_ ?_) | ((with_reducible refine zk ?_); refine wL hS ?_) | fail)
  all_goals try omega
  exact zx (zd rfl rfl rfl) (by simp)
set_option maxHeartbeats 1000000 in
theorem zdK (p : ByteArray) (hp : p.size ≤ 900000) : Spec Try.prog 126 [.t (.str p)] [] (.t (.str (zg4 p))) [] := by
  have z : (⟨#[2]⟩ : ByteArray).size = 1 := rfl
  have hS := vg (⟨#[2]⟩ ++ p) (by rw [ByteArray.size_append]; omega)
  unfold zg4
  generalize sha (⟨#[2]⟩ ++ p) = Y at hS ⊢
  refine wI Try.func126 ?_
  repeat' (first | refine wC ?_ | refine wK ?_ | ((with_reducible refine zJ ?_); refine zI rfl rfl rfl rfl rfl rfl ?_ ?_) | ((with_reducible refine zk ?_); refine wL hS ?_) | fail)
  all_goals try omega
  exact zx (zd rfl rfl rfl) (by simp)
set_option maxHeartbeats 1000000 in
theorem zd1 (s : ByteArray) (u : Nat) (hs : s.size ≤ 900000) : Spec Try.prog 119 [.t (.str s), .t (.int .i64 (u : Int))] [] (.t (.str (ktL s 0 u))) [] := by
  have h1 := qK s (u : Int) hs
  have z := jS s (u : Int)
  have h2 := zbG (vN s (u : Int)) (by omega)
  have z2 : (zca (vN s (u : Int))).size = 16 := yL _
  have h3 := zbv (zca (vN s (u : Int))) (by omega)
  rw [ktL]
  generalize zg0 (zca (vN s (u : Int))) = Y at *
  generalize zca (vN s (u : Int)) = Y2 at *
  generalize vN s (u : Int) = Y3 at *
  refine wI Try.func119 ?_
  repeat' (first | refine wC ?_ | refine wK ?_ | ((with_reducible refine zk ?_); first | refine wL h1 ?_ | refine wL h2 ?_ | refine wL h3 ?_) | fail)
  exact zx (zd rfl rfl rfl) (by simp)
theorem wF (s : ByteArray) (k n : Nat) {i : Int} {m : Nat} (h : i = (m : Int)) (hm : m < n) : (zF s k n).getD i.toNat default = ktL s k m := by
  subst h; rw [Int.toNat_natCast]; exact zfh s k n hm
set_option maxHeartbeats 16000000 in
theorem zaM (s : ByteArray) (hs : s.size ≤ 900000) : Spec Try.prog 108 [.t (.str s)] [] (.t (.agg [.sl 1 ((zF s 0 8).map .str), .sl 1 ((zF s 1 4).map .str), .sl 1 ((zF s 2 2).map .str), .sl 1 ((zF s 3 1).map .str)])) [] := by
  have l0 := zX s 0 8
  have l1 := zX s 1 4
  have l2 := zX s 2 2
  refine wI Try.func108 ?_
  repeat' (first | refine wC ?_ | refine wK ?_ | fail)
  refine zb (yU (r := .loc 3) 0 (.loc 900) 9 1 rfl rfl rfl rfl rfl) ?_
  refine zb (za [0, 2, 3, 7] [.loc 2, .loc 3, .loc 900] rfl rfl) ?_
  refine zf (fun q env st => ∃ (j : Nat), j ≤ 8 ∧ q = 8 - j ∧ env = EnvL.get [(0, .t (.str s)), (2, .ref (.loc 2) 0 0 0), (3, .ref (.loc 3) 0 0 0), (7, .t (.int .i64 (j : Int)))] ∧
      st = StO.get [(.loc 2, some (.var 134 [.t .nilsl, .t .nilsl, .t .nilsl, .t .nilsl])), (.loc 3, some (.var 134 [.row (.loc 900), .t .nilsl, .t .nilsl, .t .nilsl])), (.loc 900, some (.slt 9 1 ((zF s 0 j).map .str)))])
    ?_ (n := 8) ⟨0, by omega, rfl, rfl, rfl⟩
  rintro q env st ⟨j, hj, rfl, rfl, rfl⟩
  have wj : IntKind.i64.wrap ((j : Int) + 1) = ((j + 1 : Nat) : Int) := by rw [zj (by omega) (by omega)]; omega
  by_cases hlt : j < 8
  · have hL := zd1 s j hs
    have hsuc := wv s 0 j
    have hln := zX s 0 j
    generalize ktL s 0 j = Y at *
    repeat' (first | refine wC ?_ | (exfalso; omega) | refine wK ?_ | ((with_reducible refine ze ?_); refine zl rfl rfl rfl rfl rfl rfl ?_ ?_ ?_) | ((with_reducible refine zQ ?_); refine zq rfl rfl rfl rfl rfl rfl rfl rfl rfl rfl ?_ ?_ ?_) | ((with_reducible refine zk ?_); refine wL hL ?_) | refine zm rfl ?_ ?_ <;> intro hc | fail)
    all_goals try (simp only [List.length_map, List.length_cons, List.length_nil]; omega)
    all_goals try omega
    all_goals exact zv (n' := 8 - (j + 1)) (by omega) ((za [0, 2, 3, 7] [.loc 2, .loc 3, .loc 16] rfl rfl).trans (zo (.loc 16) (.loc 900) rfl rfl rfl rfl)) ⟨j + 1, by omega, rfl, by rw [wj]; rfl, by rw [hsuc, List.map_append, List.map_singleton]; rfl⟩
  · obtain rfl : j = 8 := by omega
    refine zb (zz (id := .loc 900) rfl rfl rfl) ?_
    repeat' (first | refine wC ?_ | refine wK ?_ | fail)
    refine zb (za [0, 2, 3, 5] [.loc 2, .loc 3] rfl rfl) ?_
    refine zf (fun q env st => (q = 3 ∧ env = EnvL.get [(0, .t (.str s)), (2, .ref (.loc 2) 0 0 0), (3, .ref (.loc 3) 0 0 0), (5, .t (.int .i64 1))] ∧ st = StO.get [(.loc 2, some (.var 134 [.t .nilsl, .t .nilsl, .t .nilsl, .t .nilsl])), (.loc 3, some (.var 134 [.t (.sl 1 ((zF s 0 8).map .str)), .t .nilsl, .t .nilsl, .t .nilsl]))]) ∨ (q = 2 ∧ env = EnvL.get [(0, .t (.str s)), (2, .ref (.loc 2) 0 0 0), (3, .ref (.loc 3) 0 0 0), (5, .t (.int .i64 2))] ∧ st = StO.get [(.loc 2, some (.var 134 [.t .nilsl, .t .nilsl, .t .nilsl, .t .nilsl])), (.loc 3, some (.var 134 [.t (.sl 1 ((zF s 0 8).map .str)), .t (.sl 1 ((zF s 1 4).map .str)), .t .nilsl, .t .nilsl]))]) ∨ (q = 1 ∧ env = EnvL.get [(0, .t (.str s)), (2, .ref (.loc 2) 0 0 0), (3, .ref (.loc 3) 0 0 0), (5, .t (.int .i64 3))] ∧ st = StO.get [(.loc 2, some (.var 134 [.t .nilsl, .t .nilsl, .t .nilsl, .t .nilsl])), (.loc 3, some (.var 134 [.t (.sl 1 ((zF s 0 8).map .str)), .t (.sl 1 ((zF s 1 4).map .str)), .t (.sl 1 ((zF s 2 2).map .str)), .t .nilsl]))]) ∨ (q = 0 ∧ env = EnvL.get [(0, .t (.str s)), (2, .ref (.loc 2) 0 0 0), (3, .ref (.loc 3) 0 0 0), (5, .t (.int .i64 4))] ∧ st = StO.get [(.loc 2, some (.var 134 [.t .nilsl, .t .nilsl, .t .nilsl, .t .nilsl])), (.loc 3, some (.var 134 [.t (.sl 1 ((zF s 0 8).map .str)), .t (.sl 1 ((zF s 1 4).map .str)), .t (.sl 1 ((zF s 2 2).map .str)), .t (.sl 1 ((zF s 3 1).map .str))]))]))
      ?_ (n := 3) (.inl ⟨rfl, rfl, rfl⟩)
    rintro q env st (⟨rfl, rfl, rfl⟩ | ⟨rfl, rfl, rfl⟩ | ⟨rfl, rfl, rfl⟩ | ⟨rfl, rfl, rfl⟩)
    · repeat' (first | refine wC ?_ | refine wK ?_ | fail)
      refine zb (yU (r := .loc 3) 1 (.loc 901) 9 1 rfl rfl rfl rfl rfl) ?_
      refine zb (za [0, 2, 3, 5, 6] [.loc 2, .loc 3, .loc 901] rfl rfl) ?_
      refine zf (fun q env st => ∃ (m : Nat), m ≤ 4 ∧ q = 4 - m ∧ env = EnvL.get [(0, .t (.str s)), (2, .ref (.loc 2) 0 0 0), (3, .ref (.loc 3) 0 0 0), (5, .t (.int .i64 1)), (6, .t (.int .i64 ((2 * m : Nat) : Int)))] ∧ st = StO.get [(.loc 2, some (.var 134 [.t .nilsl, .t .nilsl, .t .nilsl, .t .nilsl])), (.loc 3, some (.var 134 [.t (.sl 1 ((zF s 0 8).map .str)), .row (.loc 901), .t .nilsl, .t .nilsl])), (.loc 901, some (.slt 9 1 ((zF s 1 m).map .str)))])
        ?_ (n := 4) ⟨0, by omega, rfl, rfl, rfl⟩
      rintro q env st ⟨m, hm, rfl, rfl, rfl⟩
      have wm : IntKind.i64.wrap (((2 * m : Nat) : Int) + 2) = ((2 * (m + 1) : Nat) : Int) := by rw [zj (by omega) (by omega)]; omega
      have wm1 : IntKind.i64.wrap (((2 * m : Nat) : Int) + 1) = ((2 * m + 1 : Nat) : Int) := by rw [zj (by omega) (by omega)]; omega
      by_cases hlm : m < 4
      · have hI := vt (ktL s 0 (2 * m)) (ktL s 0 (2 * m + 1)) (by rw [zM]; omega) (by rw [zM]; omega)
        have hsuc := wv s 1 m
        have hln := zX s 1 m
        rw [show ktL s 1 m = zct (ktL s 0 (2 * m)) (ktL s 0 (2 * m + 1)) from rfl] at hsuc
        rw [← wF s 0 8 (i := ((2 * m : Nat) : Int)) rfl (by omega), ← wF s 0 8 wm1 (by omega)] at hI hsuc
        generalize zct ((zF s 0 8).getD ((2 * m : Nat) : Int).toNat default) ((zF s 0 8).getD (IntKind.i64.wrap (((2 * m : Nat) : Int) + 1)).toNat default) = Y at *
        repeat' (first | refine wC ?_ | (exfalso; omega) | refine wK ?_ | ((with_reducible refine ze ?_); first | refine zi rfl rfl rfl rfl rfl rfl ?_ ?_ ?_ | refine zl rfl rfl rfl rfl rfl rfl ?_ ?_ ?_) | ((with_reducible refine zQ ?_); refine zq rfl rfl rfl rfl rfl rfl rfl rfl rfl rfl ?_ ?_ ?_) | ((with_reducible refine zk ?_); refine wL hI ?_) | refine zm rfl ?_ ?_ <;> intro hc | fail)
        all_goals try (simp only [List.length_map, List.length_cons, List.length_nil]; omega)
        all_goals try omega
        all_goals first | decide | skip
        all_goals exact zv (n' := 4 - (m + 1)) (by omega) ((za [0, 2, 3, 5, 6] [.loc 2, .loc 3, .loc 53] rfl rfl).trans (zo (.loc 53) (.loc 901) rfl rfl rfl rfl)) ⟨m + 1, by omega, rfl, by rw [wm]; rfl, by rw [hsuc, List.map_append, List.map_singleton]; rfl⟩
      · obtain rfl : m = 4 := by omega
        refine zb (zz (id := .loc 901) rfl rfl rfl) ?_
        repeat' (first | refine wC ?_ | refine wK ?_ | ((with_reducible refine ze ?_); refine zl rfl rfl rfl rfl rfl rfl ?_ ?_ ?_) | fail)
        all_goals try omega
        all_goals first | decide | skip
        all_goals exact zv (n' := 2) (by omega) (za [0, 2, 3, 5] [.loc 2, .loc 3] rfl rfl) (.inr (.inl ⟨rfl, rfl, rfl⟩))
    · repeat' (first | refine wC ?_ | refine wK ?_ | fail)
      refine zb (yU (r := .loc 3) 2 (.loc 901) 9 1 rfl rfl rfl rfl rfl) ?_
      refine zb (za [0, 2, 3, 5, 6] [.loc 2, .loc 3, .loc 901] rfl rfl) ?_
      refine zf (fun q env st => ∃ (m : Nat), m ≤ 2 ∧ q = 2 - m ∧ env = EnvL.get [(0, .t (.str s)), (2, .ref (.loc 2) 0 0 0), (3, .ref (.loc 3) 0 0 0), (5, .t (.int .i64 2)), (6, .t (.int .i64 ((2 * m : Nat) : Int)))] ∧ st = StO.get [(.loc 2, some (.var 134 [.t .nilsl, .t .nilsl, .t .nilsl, .t .nilsl])), (.loc 3, some (.var 134 [.t (.sl 1 ((zF s 0 8).map .str)), .t (.sl 1 ((zF s 1 4).map .str)), .row (.loc 901), .t .nilsl])), (.loc 901, some (.slt 9 1 ((zF s 2 m).map .str)))])
        ?_ (n := 2) ⟨0, by omega, rfl, rfl, rfl⟩
      rintro q env st ⟨m, hm, rfl, rfl, rfl⟩
      have wm : IntKind.i64.wrap (((2 * m : Nat) : Int) + 2) = ((2 * (m + 1) : Nat) : Int) := by rw [zj (by omega) (by omega)]; omega
      have wm1 : IntKind.i64.wrap (((2 * m : Nat) : Int) + 1) = ((2 * m + 1 : Nat) : Int) := by rw [zj (by omega) (by omega)]; omega
      by_cases hlm : m < 2
      · have hI := vt (ktL s 1 (2 * m)) (ktL s 1 (2 * m + 1)) (by rw [zM]; omega) (by rw [zM]; omega)
        have hsuc := wv s 2 m
        have hln := zX s 2 m
        rw [show ktL s 2 m = zct (ktL s 1 (2 * m)) (ktL s 1 (2 * m + 1)) from rfl] at hsuc
        rw [← wF s 1 4 (i := ((2 * m : Nat) : Int)) rfl (by omega), ← wF s 1 4 wm1 (by omega)] at hI hsuc
        generalize zct ((zF s 1 4).getD ((2 * m : Nat) : Int).toNat default) ((zF s 1 4).getD (IntKind.i64.wrap (((2 * m : Nat) : Int) + 1)).toNat default) = Y at *
        repeat' (first | refine wC ?_ | (exfalso; omega) | refine wK ?_ | ((with_reducible refine ze ?_); first | refine zi rfl rfl rfl rfl rfl rfl ?_ ?_ ?_ | refine zl rfl rfl rfl rfl rfl rfl ?_ ?_ ?_) | ((with_reducible refine zQ ?_); refine zq rfl rfl rfl rfl rfl rfl rfl rfl rfl rfl ?_ ?_ ?_) | ((with_reducible refine zk ?_); refine wL hI ?_) | refine zm rfl ?_ ?_ <;> intro hc | fail)
        all_goals try (simp only [List.length_map, List.length_cons, List.length_nil]; omega)
        all_goals try omega
        all_goals first | decide | skip
        all_goals exact zv (n' := 2 - (m + 1)) (by omega) ((za [0, 2, 3, 5, 6] [.loc 2, .loc 3, .loc 53] rfl rfl).trans (zo (.loc 53) (.loc 901) rfl rfl rfl rfl)) ⟨m + 1, by omega, rfl, by rw [wm]; rfl, by rw [hsuc, List.map_append, List.map_singleton]; rfl⟩
      · obtain rfl : m = 2 := by omega
        refine zb (zz (id := .loc 901) rfl rfl rfl) ?_
        repeat' (first | refine wC ?_ | refine wK ?_ | ((with_reducible refine ze ?_); refine zl rfl rfl rfl rfl rfl rfl ?_ ?_ ?_) | fail)
        all_goals try omega
        all_goals first | decide | skip
        all_goals exact zv (n' := 1) (by omega) (za [0, 2, 3, 5] [.loc 2, .loc 3] rfl rfl) (.inr (.inr (.inl ⟨rfl, rfl, rfl⟩)))
    · repeat' (first | refine wC ?_ | refine wK ?_ | fail)
      refine zb (yU (r := .loc 3) 3 (.loc 901) 9 1 rfl rfl rfl rfl rfl) ?_
      refine zb (za [0, 2, 3, 5, 6] [.loc 2, .loc 3, .loc 901] rfl rfl) ?_
      refine zf (fun q env st => ∃ (m : Nat), m ≤ 1 ∧ q = 1 - m ∧ env = EnvL.get [(0, .t (.str s)), (2, .ref (.loc 2) 0 0 0), (3, .ref (.loc 3) 0 0 0), (5, .t (.int .i64 3)), (6, .t (.int .i64 ((2 * m : Nat) : Int)))] ∧ st = StO.get [(.loc 2, some (.var 134 [.t .nilsl, .t .nilsl, .t .nilsl, .t .nilsl])), (.loc 3, some (.var 134 [.t (.sl 1 ((zF s 0 8).map .str)), .t (.sl 1 ((zF s 1 4).map .str)), .t (.sl 1 ((zF s 2 2).map .str)), .row (.loc 901)])), (.loc 901, some (.slt 9 1 ((zF s 3 m).map .str)))])
        ?_ (n := 1) ⟨0, by omega, rfl, rfl, rfl⟩
      rintro q env st ⟨m, hm, rfl, rfl, rfl⟩
      have wm : IntKind.i64.wrap (((2 * m : Nat) : Int) + 2) = ((2 * (m + 1) : Nat) : Int) := by rw [zj (by omega) (by omega)]; omega
      have wm1 : IntKind.i64.wrap (((2 * m : Nat) : Int) + 1) = ((2 * m + 1 : Nat) : Int) := by rw [zj (by omega) (by omega)]; omega
      by_cases hlm : m < 1
      · have hI := vt (ktL s 2 (2 * m)) (ktL s 2 (2 * m + 1)) (by rw [zM]; omega) (by rw [zM]; omega)
        have hsuc := wv s 3 m
        have hln := zX s 3 m
        rw [show ktL s 3 m = zct (ktL s 2 (2 * m)) (ktL s 2 (2 * m + 1)) from rfl] at hsuc
        rw [← wF s 2 2 (i := ((2 * m : Nat) : Int)) rfl (by omega), ← wF s 2 2 wm1 (by omega)] at hI hsuc
        generalize zct ((zF s 2 2).getD ((2 * m : Nat) : Int).toNat default) ((zF s 2 2).getD (IntKind.i64.wrap (((2 * m : Nat) : Int) + 1)).toNat default) = Y at *
        repeat' (first | refine wC ?_ | (exfalso; omega) | refine wK ?_ | ((with_reducible refine ze ?_); first | refine zi rfl rfl rfl rfl rfl rfl ?_ ?_ ?_ | refine zl rfl rfl rfl rfl rfl rfl ?_ ?_ ?_) | ((with_reducible refine zQ ?_); refine zq rfl rfl rfl rfl rfl rfl rfl rfl rfl rfl ?_ ?_ ?_) | ((with_reducible refine zk ?_); refine wL hI ?_) | refine zm rfl ?_ ?_ <;> intro hc | fail)
        all_goals try (simp only [List.length_map, List.length_cons, List.length_nil]; omega)
        all_goals try omega
        all_goals first | decide | skip
        all_goals exact zv (n' := 1 - (m + 1)) (by omega) ((za [0, 2, 3, 5, 6] [.loc 2, .loc 3, .loc 53] rfl rfl).trans (zo (.loc 53) (.loc 901) rfl rfl rfl rfl)) ⟨m + 1, by omega, rfl, by rw [wm]; rfl, by rw [hsuc, List.map_append, List.map_singleton]; rfl⟩
      · obtain rfl : m = 1 := by omega
        refine zb (zz (id := .loc 901) rfl rfl rfl) ?_
        repeat' (first | refine wC ?_ | refine wK ?_ | ((with_reducible refine ze ?_); refine zl rfl rfl rfl rfl rfl rfl ?_ ?_ ?_) | fail)
        all_goals try omega
        all_goals first | decide | skip
        all_goals exact zv (n' := 0) (by omega) (za [0, 2, 3, 5] [.loc 2, .loc 3] rfl rfl) (.inr (.inr (.inr ⟨rfl, rfl, rfl⟩)))
    · repeat' (first | refine wC ?_ | refine wK ?_ | fail)
      exact wD
set_option maxHeartbeats 4000000 in
theorem jx (s : ByteArray) (hs : s.size ≤ 900000) : Spec Try.prog 116 [.t (.str s)] [] (.t (.str (ktP s))) [] := by
  have hT := zaM s hs
  have hz := zM s 3 0
  have hR := zdK (ktL s 3 0) (by omega)
  have l3 := zX s 3 1
  rw [show zg4 (ktL s 3 0) = ktP s from rfl, ← wF s 3 1 (i := 0) (m := 0) rfl (by omega)] at hR
  generalize ktP s = Y at *
  generalize zF s 0 8 = r0 at *
  generalize zF s 1 4 = r1 at *
  generalize zF s 2 2 = r2 at *
  generalize zF s 3 1 = r3 at *
  clear hz
  refine wI Try.func116 ?_
  repeat' (first | refine wC ?_ | refine wK ?_ | ((with_reducible refine ze ?_); refine zi rfl rfl rfl rfl rfl rfl ?_ ?_ ?_) | ((with_reducible refine zk ?_); first | refine wL hT ?_ | refine wL hR ?_) | ((with_reducible refine yf ?_); refine vJ rfl rfl rfl rfl rfl rfl rfl rfl ?_ ?_ ?_) | fail)
  all_goals try (simp only [List.length_map]; omega)
  all_goals try omega
  all_goals try decide
  all_goals try rfl
  all_goals exact zx (zd rfl rfl rfl) (by simp)
set_option maxHeartbeats 2000000 in
theorem zcP (s : ByteArray) (hs : s.size ≤ 900000) : Spec Try.prog 101 [.t (.str s)] [] (.t (.str (kF 2 (ktP s)))) [] := by
  have hP := jx s hs
  have hM := zee 2 (by omega) (by omega) (ktP s) (by rw [zb3]; rfl)
  generalize kF 2 (ktP s) = Z at *
  generalize ktP s = Y at *
  refine wI Try.func101 ?_
  repeat' (first | refine wC ?_ | refine wK ?_ | ((with_reducible refine zk ?_); first | refine wL hP ?_ | refine wL hM ?_) | fail)
  exact zx (zd rfl rfl rfl) (by simp)
theorem xk0 : ∀ u : Fin 8, IntKind.i64.wrap ((BitVec.ofInt IntKind.i64.bits ((u.val : Int) / 2 ^ min (Int.toNat 0) IntKind.i64.bits) ^^^ BitVec.ofInt IntKind.i64.bits 1).toNat : Int) = ((u.val / 2 ^ 0 ^^^ 1 : Nat) : Int) ∧ u.val / 2 ^ 0 ^^^ 1 < 8 := by decide
theorem xk1 : ∀ u : Fin 8, IntKind.i64.wrap ((BitVec.ofInt IntKind.i64.bits ((u.val : Int) / 2 ^ min (Int.toNat 1) IntKind.i64.bits) ^^^ BitVec.ofInt IntKind.i64.bits 1).toNat : Int) = ((u.val / 2 ^ 1 ^^^ 1 : Nat) : Int) ∧ u.val / 2 ^ 1 ^^^ 1 < 4 := by decide
theorem xk2 : ∀ u : Fin 8, IntKind.i64.wrap ((BitVec.ofInt IntKind.i64.bits ((u.val : Int) / 2 ^ min (Int.toNat 2) IntKind.i64.bits) ^^^ BitVec.ofInt IntKind.i64.bits 1).toNat : Int) = ((u.val / 2 ^ 2 ^^^ 1 : Nat) : Int) ∧ u.val / 2 ^ 2 ^^^ 1 < 2 := by decide
set_option maxHeartbeats 16000000 in
theorem zaQ (s m : ByteArray) (u : Nat) (hu : u < 8) (hs : s.size ≤ 900000) (hm : m.size ≤ 900000) : Spec Try.prog 90 [.t (.str s), .t (.int .i64 (u : Int)), .t (.str m)] [] (.tup [.t (.str (ktS s u m)), .t (.int .i64 0)]) [] := by
  have hT := zaM s hs
  have hD := qK s (u : Int) hs
  have z := jS s (u : Int)
  have hG := zev (vN s (u : Int)) m (by omega) hm
  have zG := wZ (vN s (u : Int)) m
  have zB := qf (u : Int)
  have l0 := zX s 0 8
  have l1 := zX s 1 4
  have l2 := zX s 2 2
  have b0 : ktB s u 0 = ktL s 0 (u / 2 ^ 0 ^^^ 1) := rfl
  have b1 : ktB s u 1 = ktL s 1 (u / 2 ^ 1 ^^^ 1) := rfl
  have b2 : ktB s u 2 = ktL s 2 (u / 2 ^ 2 ^^^ 1) := rfl
  unfold ktS
  generalize zdk (vN s (u : Int)) m = Y at *
  generalize vN s (u : Int) = D at *
  unfold byS at zB ⊢
  refine wI Try.func90 ?_
  repeat' (first | refine wC ?_ | (exfalso; omega) | refine wK ?_ | ((with_reducible refine zJ ?_); refine zI rfl rfl rfl rfl rfl rfl ?_ ?_) | ((with_reducible refine zN ?_); refine zw rfl rfl rfl rfl rfl rfl ?_ ?_) | ((with_reducible refine zk ?_); first | refine wL hT ?_ | refine wL hD ?_ | refine wL hG ?_) | refine zm rfl ?_ ?_ <;> intro hc | fail)
  all_goals try exact jy _
  all_goals try omega
  obtain ⟨A, hA⟩ : ∃ A : ByteArray, A = vZ [T.int .u8 (IntKind.u8.wrap (u : Int))] ++ Y := ⟨_, rfl⟩
  have zA : A.size = 577 := by rw [hA, ByteArray.size_append]; omega
  rw [← hA]
  clear hA hG
  have y0 := zM s 0 (u / 2 ^ 0 ^^^ 1)
  have y1 := zM s 1 (u / 2 ^ 1 ^^^ 1)
  have y2 := zM s 2 (u / 2 ^ 2 ^^^ 1)
  rw [← b0] at y0
  rw [← b1] at y1
  rw [← b2] at y2
  refine zb (za [1, 6, 7, 8, 9, 29] [.loc 9] rfl rfl) ?_
  refine zf (fun q env st => (q = 3 ∧ env = EnvL.get [(1, .t (.int .i64 (u : Int))), (6, .t (.str ⟨#[]⟩)), (7, .t (.int .i64 0)), (8, .t (.str (A))), (9, .ref (.loc 9) 0 0 0), (29, .t (.int .i64 0))] ∧ st = StO.get [(.loc 9, some (.var 134 [.t (.sl 1 ((zF s 0 8).map .str)), .t (.sl 1 ((zF s 1 4).map .str)), .t (.sl 1 ((zF s 2 2).map .str)), .t (.sl 1 ((zF s 3 1).map .str))]))]) ∨ (q = 2 ∧ env = EnvL.get [(1, .t (.int .i64 (u : Int))), (6, .t (.str ⟨#[]⟩)), (7, .t (.int .i64 0)), (8, .t (.str (A ++ ktB s u 0))), (9, .ref (.loc 9) 0 0 0), (29, .t (.int .i64 1))] ∧ st = StO.get [(.loc 9, some (.var 134 [.t (.sl 1 ((zF s 0 8).map .str)), .t (.sl 1 ((zF s 1 4).map .str)), .t (.sl 1 ((zF s 2 2).map .str)), .t (.sl 1 ((zF s 3 1).map .str))]))]) ∨ (q = 1 ∧ env = EnvL.get [(1, .t (.int .i64 (u : Int))), (6, .t (.str ⟨#[]⟩)), (7, .t (.int .i64 0)), (8, .t (.str (A ++ ktB s u 0 ++ ktB s u 1))), (9, .ref (.loc 9) 0 0 0), (29, .t (.int .i64 2))] ∧ st = StO.get [(.loc 9, some (.var 134 [.t (.sl 1 ((zF s 0 8).map .str)), .t (.sl 1 ((zF s 1 4).map .str)), .t (.sl 1 ((zF s 2 2).map .str)), .t (.sl 1 ((zF s 3 1).map .str))]))]) ∨ (q = 0 ∧ env = EnvL.get [(1, .t (.int .i64 (u : Int))), (6, .t (.str ⟨#[]⟩)), (7, .t (.int .i64 0)), (8, .t (.str (A ++ ktB s u 0 ++ ktB s u 1 ++ ktB s u 2))), (9, .ref (.loc 9) 0 0 0), (29, .t (.int .i64 3))] ∧ st = StO.get [(.loc 9, some (.var 134 [.t (.sl 1 ((zF s 0 8).map .str)), .t (.sl 1 ((zF s 1 4).map .str)), .t (.sl 1 ((zF s 2 2).map .str)), .t (.sl 1 ((zF s 3 1).map .str))]))]))
    ?_ (n := 3) (.inl ⟨rfl, rfl, rfl⟩)
  rintro q env st (⟨rfl, rfl, rfl⟩ | ⟨rfl, rfl, rfl⟩ | ⟨rfl, rfl, rfl⟩ | ⟨rfl, rfl, rfl⟩)
  · repeat' (first | refine wC ?_ | refine wK ?_ | ((with_reducible refine zJ ?_); refine zI rfl rfl rfl rfl rfl rfl ?_ ?_) | ((with_reducible refine ze ?_); first | refine zi rfl rfl rfl rfl rfl rfl ?_ ?_ ?_ | refine zl rfl rfl rfl rfl rfl rfl ?_ ?_ ?_) | fail)
    all_goals first | decide | skip
    all_goals (
      obtain ⟨hx, hxl⟩ := xk0 ⟨u, hu⟩
      simp only at hx hxl
      have hr : (zF s 0 8).getD (IntKind.i64.wrap ((BitVec.ofInt IntKind.i64.bits ((u : Int) / 2 ^ min (Int.toNat 0) IntKind.i64.bits) ^^^ BitVec.ofInt IntKind.i64.bits 1).toNat : Int)).toNat default = ktB s u 0 := by rw [wF s 0 8 hx hxl]; rfl
      first
        | (rw [hx]; exact Int.natCast_nonneg _)
        | (rw [hx, zX]; exact Int.ofNat_lt.2 hxl)
        | (rw [hr]; clear hx hr; (try simp only [ByteArray.size_append]); omega)
        | exact zv (n' := 2) (by omega) (za [1, 6, 7, 8, 9, 29] [.loc 9] rfl rfl) (.inr (.inl ⟨rfl, by rw [hr]; rfl, rfl⟩)))
  · repeat' (first | refine wC ?_ | refine wK ?_ | ((with_reducible refine zJ ?_); refine zI rfl rfl rfl rfl rfl rfl ?_ ?_) | ((with_reducible refine ze ?_); first | refine zi rfl rfl rfl rfl rfl rfl ?_ ?_ ?_ | refine zl rfl rfl rfl rfl rfl rfl ?_ ?_ ?_) | fail)
    all_goals first | decide | skip
    all_goals (
      obtain ⟨hx, hxl⟩ := xk1 ⟨u, hu⟩
      simp only at hx hxl
      have hr : (zF s 1 4).getD (IntKind.i64.wrap ((BitVec.ofInt IntKind.i64.bits ((u : Int) / 2 ^ min (Int.toNat 1) IntKind.i64.bits) ^^^ BitVec.ofInt IntKind.i64.bits 1).toNat : Int)).toNat default = ktB s u 1 := by rw [wF s 1 4 hx hxl]; rfl
      first
        | (rw [hx]; exact Int.natCast_nonneg _)
        | (rw [hx, zX]; exact Int.ofNat_lt.2 hxl)
        | (rw [hr]; clear hx hr; (try simp only [ByteArray.size_append]); omega)
        | exact zv (n' := 1) (by omega) (za [1, 6, 7, 8, 9, 29] [.loc 9] rfl rfl) (.inr (.inr (.inl ⟨rfl, by rw [hr]; rfl, rfl⟩))))
  · repeat' (first | refine wC ?_ | refine wK ?_ | ((with_reducible refine zJ ?_); refine zI rfl rfl rfl rfl rfl rfl ?_ ?_) | ((with_reducible refine ze ?_); first | refine zi rfl rfl rfl rfl rfl rfl ?_ ?_ ?_ | refine zl rfl rfl rfl rfl rfl rfl ?_ ?_ ?_) | fail)
    all_goals first | decide | skip
    all_goals (
      obtain ⟨hx, hxl⟩ := xk2 ⟨u, hu⟩
      simp only at hx hxl
      have hr : (zF s 2 2).getD (IntKind.i64.wrap ((BitVec.ofInt IntKind.i64.bits ((u : Int) / 2 ^ min (Int.toNat 2) IntKind.i64.bits) ^^^ BitVec.ofInt IntKind.i64.bits 1).toNat : Int)).toNat default = ktB s u 2 := by rw [wF s 2 2 hx hxl]; rfl
      first
        | (rw [hx]; exact Int.natCast_nonneg _)
        | (rw [hx, zX]; exact Int.ofNat_lt.2 hxl)
        | (rw [hr]; clear hx hr; (try simp only [ByteArray.size_append]); omega)
        | exact zv (n' := 0) (by omega) (za [1, 6, 7, 8, 9, 29] [.loc 9] rfl rfl) (.inr (.inr (.inr ⟨rfl, by rw [hr]; rfl, rfl⟩))))
  · repeat' (first | refine wC ?_ | refine wK ?_ | fail)
    all_goals exact zx (yo rfl rfl rfl rfl rfl) (by simp)
end Go.AL
namespace Go.AL
open Go Go.RowKit
theorem jv (a b k : Nat) (hb : b < 2 ^ k) (h : a * 2 ^ k + b < 2 ^ 62) : zfl ((a * 2 ^ k : Nat) : Int) (b : Int) = ((a * 2 ^ k + b : Nat) : Int) := by
  have e : (2 : Nat) ^ 62 < 2 ^ 64 := by decide
  unfold zfl w64
  rw [BitVec.ofInt_natCast, BitVec.ofInt_natCast, BitVec.toNat_or, BitVec.toNat_ofNat, BitVec.toNat_ofNat, Nat.mod_eq_of_lt (by omega), Nat.mod_eq_of_lt (by omega), ← Nat.shiftLeft_eq, ← Nat.shiftLeft_add_eq_or_of_lt hb, Nat.shiftLeft_eq]
  have : (2 : Nat) ^ 62 = 4611686018427387904 := by decide
  exact zj (by omega) (by omega)
theorem qV (n : Nat) (h : n < 16777216) : zay (n : Int) 63 = ((n % 64 : Nat) : Int) := by
  unfold zay w64
  rw [show (63 : Int) = ((63 : Nat) : Int) from rfl, BitVec.ofInt_natCast, BitVec.ofInt_natCast, BitVec.toNat_and, BitVec.toNat_ofNat, BitVec.toNat_ofNat, Nat.mod_eq_of_lt (by omega), show 63 % 2 ^ 64 = 2 ^ 6 - 1 from rfl, Nat.and_two_pow_sub_one_eq_mod]
  exact zj (by omega) (by omega)
theorem zgx (a b c : Nat) (ha : a < 256) (hb : b < 256) (hc : c < 256) : n24 a b c = ((65536 * a + 256 * b + c : Nat) : Int) := by
  have e1 : (2 : Int) ^ min (16 : Int).toNat 64 = 65536 := by decide
  have e2 : (2 : Int) ^ min (8 : Int).toNat 64 = 256 := by decide
  unfold n24
  rw [e1, e2]
  unfold w64
  rw [zj (n := (a : Int)) (by omega) (by omega), zj (n := (b : Int)) (by omega) (by omega), zj (n := (c : Int)) (by omega) (by omega), zj (n := (a : Int) * 65536) (by omega) (by omega), zj (n := (b : Int) * 256) (by omega) (by omega)]
  have h1 := jv a (b * 256) 16 (by omega) (by omega)
  rw [show ((a * 2 ^ 16 : Nat) : Int) = (a : Int) * 65536 by omega, show ((b * 256 : Nat) : Int) = (b : Int) * 256 by omega] at h1
  rw [h1]
  have h2 := jv (a * 256 + b) c 8 (by omega) (by omega)
  rw [show ((a * 2 ^ 16 + b * 256 : Nat) : Int) = (((a * 256 + b) * 2 ^ 8 : Nat) : Int) by omega, h2]
  omega
theorem zeB (m v : Nat) (hv : v < 64) (hm : m < 1048576) : zfl (IntKind.i64.wrap ((m : Int) * 2 ^ min (6 : Int).toNat IntKind.i64.bits)) (v : Int) = ((64 * m + v : Nat) : Int) := by
  rw [show (2 : Int) ^ min (6 : Int).toNat IntKind.i64.bits = 64 by decide, zj (by omega) (by omega)]
  have h := jv m v 6 (by omega) (by omega)
  rw [show ((m * 2 ^ 6 : Nat) : Int) = (m : Int) * 64 by omega] at h
  rw [h]
  omega
def dgN (N i : Nat) : Nat := N / 2 ^ (18 - 6 * i) % 64
theorem zbV (N i : Nat) : dgN N i < 64 := Nat.mod_lt _ (by decide)
theorem zfJ (N : Nat) (h : N < 16777216) : zgo (N : Int) = [.int .u8 (bAt xq (dgN N 0 : Nat)), .int .u8 (bAt xq (dgN N 1 : Nat)), .int .u8 (bAt xq (dgN N 2 : Nat)), .int .u8 (bAt xq (dgN N 3 : Nat))] := by
  unfold zgo
  rw [show (2 : Int) ^ min (18 : Int).toNat 64 = 262144 by decide, show (2 : Int) ^ min (12 : Int).toNat 64 = 4096 by decide, show (2 : Int) ^ min (6 : Int).toNat 64 = 64 by decide]
  have q0 : (N : Int) / 262144 = ((dgN N 0 : Nat) : Int) := by unfold dgN; simp only [Nat.mul_zero, Nat.sub_zero]; omega
  have q1 : (N : Int) / 4096 = ((N / 4096 : Nat) : Int) := by omega
  have q2 : (N : Int) / 64 = ((N / 64 : Nat) : Int) := by omega
  rw [q0, q1, q2, qV _ (by omega), qV _ (by omega), qV _ h, show dgN N 1 = N / 4096 % 64 from by simp [dgN], show dgN N 2 = N / 64 % 64 from by simp [dgN], show dgN N 3 = N % 64 from by simp [dgN]]
theorem jE (N i : Nat) (hi : i < 4) (h : N < 16777216) : N / 2 ^ (18 - 6 * i) = 64 * (N / 2 ^ (24 - 6 * i)) + dgN N i := by
  unfold dgN
  have : i = 0 ∨ i = 1 ∨ i = 2 ∨ i = 3 := by omega
  rcases this with rfl | rfl | rfl | rfl <;> simp only [Nat.mul_zero, Nat.sub_zero, Nat.mul_one, Nat.reduceMul, Nat.reduceSub, Nat.reducePow] <;> omega
def alC (v : Nat) : UInt8 := xq.data.toList.getD v 0
theorem zgc (v : Nat) : bAt xq (v : Int) = ((alC v).toNat : Int) := rfl
def qdB (N : Nat) : List UInt8 := [alC (dgN N 0), alC (dgN N 1), alC (dgN N 2), alC (dgN N 3)]
def zaP : Nat → List UInt8 → List UInt8
  | k + 1, a :: b :: c :: l => qdB (65536 * a.toNat + 256 * b.toNat + c.toNat) ++ zaP k l
  | _, _ => []
def N3 (l : List UInt8) (j : Nat) : Nat := 65536 * (l.getD (3 * j) 0).toNat + 256 * (l.getD (3 * j + 1) 0).toNat + (l.getD (3 * j + 2) 0).toNat
theorem zhc (l : List UInt8) (j : Nat) : N3 l j < 16777216 := by
  unfold N3
  have h1 := (l.getD (3 * j) 0).toNat_lt
  have h2 := (l.getD (3 * j + 1) 0).toNat_lt
  have h3 := (l.getD (3 * j + 2) 0).toNat_lt
  omega
theorem zej : ∀ (k j i : Nat) (l : List UInt8), l.length = 3 * k → j < k → i < 4 → (zaP k l).getD (4 * j + i) 0 = alC (dgN (N3 l j) i)
  | 0, j, i, l, _, hj, _ => by omega
  | k + 1, j, i, a :: b :: c :: l, hl, hj, hi => by
    rw [zaP]
    cases j with
    | zero =>
      have : i = 0 ∨ i = 1 ∨ i = 2 ∨ i = 3 := by omega
      rcases this with rfl | rfl | rfl | rfl <;> rfl
    | succ j =>
      have ih := zej k j i l (by simp only [List.length_cons] at hl; omega) (by omega) hi
      have e : N3 (a :: b :: c :: l) (j + 1) = N3 l j := by
        unfold N3
        rw [show 3 * (j + 1) = 3 * j + 1 + 1 + 1 by omega]
        rfl
      rw [e, ← ih, show 4 * (j + 1) + i = (qdB (65536 * a.toNat + 256 * b.toNat + c.toNat)).length + (4 * j + i) by simp [qdB]; omega]
      rw [List.getD_eq_getElem?_getD, List.getD_eq_getElem?_getD, List.getElem?_append_right (by omega), Nat.add_sub_cancel_left]
  | k + 1, j, i, [], hl, _, _ => by simp at hl
  | k + 1, j, i, [_], hl, _, _ => by simp at hl; omega
  | k + 1, j, i, [_, _], hl, _, _ => by simp at hl; omega
theorem qd : ∀ (k : Nat) (l : List UInt8), l.length = 3 * k → (zaP k l).length = 4 * k
  | 0, l, _ => by cases l <;> rfl
  | k + 1, a :: b :: c :: l, hl => by
    rw [zaP, List.length_append, qd k l (by simp only [List.length_cons] at hl; omega)]
    simp [qdB]; omega
  | k + 1, [], hl => by simp at hl
  | k + 1, [_], hl => by simp at hl; omega
  | k + 1, [_, _], hl => by simp at hl; omega
theorem zfg (l : List UInt8) (j : Nat) : N3 l j / 65536 = (l.getD (3 * j) 0).toNat ∧ N3 l j / 256 % 256 = (l.getD (3 * j + 1) 0).toNat ∧ N3 l j % 256 = (l.getD (3 * j + 2) 0).toNat := by
  unfold N3
  have h1 := (l.getD (3 * j) 0).toNat_lt
  have h2 := (l.getD (3 * j + 1) 0).toNat_lt
  have h3 := (l.getD (3 * j + 2) 0).toNat_lt
  omega
end Go.AL
namespace Go.AL
open Go Go.Proofs Go.RowKit
theorem zeW : ∀ u : Fin 64, ∀ v : Fin 64, u.val < v.val → bAt xq (u.val : Int) ≠ bAt xq (v.val : Int) := by decide +kernel
set_option maxHeartbeats 4000000 in
theorem wg (v : Nat) (hv : v < 64) : Spec Try.prog 134 [.t (.int .u8 (bAt xq (v : Int)))] [] (.tup [.t (.int .i64 (v : Int)), .t (.bool true)]) [] := by
  have hne : ∀ u : Nat, u < v → bAt xq (u : Int) ≠ bAt xq (v : Int) := fun u h => zeW ⟨u, by omega⟩ ⟨v, hv⟩ h
  have hz : (xq.size : Int) = 64 := zcN
  generalize hcv : bAt xq (v : Int) = c at *
  refine wI Try.func134 ?_
  repeat' (first | refine wC ?_ | refine wK ?_ | fail)
  refine zb (za [0, 2, 3, 5] [] rfl rfl) ?_
  refine zf (fun q env st => ∃ (j : Nat), j ≤ v ∧ q = v - j ∧ env = EnvL.get [(0, .t (.int .u8 c)), (2, .t (.int .i64 0)), (3, .t (.bool false)), (5, .t (.int .i64 (j : Int)))] ∧ st = StO.get [])
    ?_ (n := v) ⟨0, by omega, rfl, rfl, rfl⟩
  rintro q env st ⟨j, hj, rfl, rfl, rfl⟩
  have wj : IntKind.i64.wrap ((j : Int) + 1) = ((j + 1 : Nat) : Int) := by rw [zj (by omega) (by omega)]; omega
  by_cases hlt : j < v
  · have hn := hne j hlt
    repeat' (first | refine wC ?_ | (exfalso; omega) | exact absurd ‹_› hn | refine wK ?_ | ((with_reducible refine yf ?_); refine zy rfl rfl rfl rfl rfl rfl ?_ ?_ ?_) | refine zm rfl ?_ ?_ <;> intro hc | fail)
    all_goals try (show ((j : Nat) : Int) < (xq.size : Int); omega)
    all_goals try omega
    all_goals first | exact absurd ‹_› hn | exact zv (n' := v - (j + 1)) (by omega) (za [0, 2, 3, 5] [] rfl rfl) ⟨j + 1, by omega, rfl, by rw [wj]; rfl, rfl⟩
  · obtain rfl : j = v := by omega
    repeat' (first | refine wC ?_ | (exfalso; omega) | exact absurd hcv ‹_› | refine wK ?_ | ((with_reducible refine yf ?_); refine zy rfl rfl rfl rfl rfl rfl ?_ ?_ ?_) | refine zm rfl ?_ ?_ <;> intro hc | fail)
    all_goals try (show ((j : Nat) : Int) < (xq.size : Int); omega)
    all_goals try omega
    all_goals first | exact absurd hcv ‹_› | exact zx (qg rfl (AVLE.refl _) (AVLE.refl _)) (by simp)
theorem zeu : ∀ (k : Nat) (l : List UInt8), l.length = 3 * k → zd2 k (ofL l) = (zaP k l).map u8T
  | 0, l, h => by cases l <;> rfl
  | k + 1, a :: b :: c :: l, h => by
    have ha := a.toNat_lt
    have hb := b.toNat_lt
    have hc := c.toNat_lt
    rw [zd2, zaP, List.map_append]
    have e1 : bAt (ofL (a :: b :: c :: l)) 0 = (a.toNat : Int) := rfl
    have e2 : bAt (ofL (a :: b :: c :: l)) 1 = (b.toNat : Int) := rfl
    have e3 : bAt (ofL (a :: b :: c :: l)) 2 = (c.toNat : Int) := rfl
    rw [e1, e2, e3, zgx _ _ _ (by omega) (by omega) (by omega), zfJ _ (by omega), yz, xl]
    rw [show ((a :: b :: c :: l).drop 3).take ((a :: b :: c :: l).length - 3) = l from by simp]
    rw [zeu k l (by simp only [List.length_cons] at h; omega)]
    rfl
  | k + 1, [], h => by simp at h
  | k + 1, [_], h => by simp at h; omega
  | k + 1, [_, _], h => by simp at h; omega
theorem zhb (l : List UInt8) (j : Nat) (h : 3 * j + 2 < l.length) : l.take (3 * (j + 1)) = l.take (3 * j) ++ [l.getD (3 * j) 0, l.getD (3 * j + 1) 0, l.getD (3 * j + 2) 0] := by
  rw [show 3 * (j + 1) = 3 * j + 1 + 1 + 1 by omega, List.take_add_one, List.take_add_one, List.take_add_one, List.getElem?_eq_getElem (by omega), List.getElem?_eq_getElem (by omega), List.getElem?_eq_getElem (by omega)]
  simp only [List.getD_eq_getElem?_getD]
  rw [List.getElem?_eq_getElem (by omega), List.getElem?_eq_getElem (by omega), List.getElem?_eq_getElem (by omega)]
  simp only [Option.toList_some, Option.getD_some, List.append_assoc, List.cons_append, List.nil_append]
set_option maxHeartbeats 16000000 in
theorem zdt (k : Nat) (l : List UInt8) (hl : l.length = 3 * k) (hk : k ≤ 1000) : Spec Try.prog 130 [.t (.str (ofL (zaP k l)))] [] (.tup [.t (.str (ofL l)), .t (.int .i64 0)]) [] := by
  obtain ⟨E, hE⟩ : ∃ E, E = ofL (zaP k l) := ⟨_, rfl⟩
  have hz : E.size = 4 * k := by rw [hE, xl, qd k l hl]
  have hat : ∀ j i : Nat, j < k → i < 4 → bAt E ((4 * j + i : Nat) : Int) = bAt xq ((dgN (N3 l j) i : Nat) : Int) := fun j i hj hi => by
    rw [hE, zgc, ← zej k j i l hl hj hi]; rfl
  have hmod : (E.size : Int).tmod 4 = 0 := by rw [hz, Int.tmod_eq_emod_of_nonneg (by omega)]; omega
  rw [← hE]
  clear hE
  refine wI Try.func130 ?_
  repeat' (first | refine wC ?_ | (exfalso; omega) | refine wK ?_ | refine zm rfl ?_ ?_ <;> intro hc | refine yH rfl ?_ ?_ <;> intro hc | fail)
  all_goals first | omega | exact absurd hmod ‹_› | skip
  refine zb (xv 4 (.loc 900) 5 1 rfl rfl rfl) ?_
  refine zb (za [0, 2, 3, 4, 5] [.loc 900] rfl rfl) ?_
  refine zf (fun q env st => ∃ (j : Nat), j ≤ k ∧ q = k - j ∧ env = EnvL.get [(0, .t (.str E)), (2, .t (.str ⟨#[]⟩)), (3, .t (.int .i64 0)), (4, .row (.loc 900)), (5, .t (.int .i64 ((4 * j : Nat) : Int)))] ∧ st = StO.get [(.loc 900, some (.slt 5 1 ((l.take (3 * j)).map u8T)))])
    ?_ (n := k) ⟨0, by omega, rfl, rfl, rfl⟩
  rintro q env st ⟨j, hj, rfl, rfl, rfl⟩
  have wj : IntKind.i64.wrap (((4 * j : Nat) : Int) + 4) = ((4 * (j + 1) : Nat) : Int) := by rw [zj (by omega) (by omega)]; omega
  by_cases hlt : j < k
  · have hN := zhc l j
    have b1 := zfg l j
    have s0 := jE (N3 l j) 0 (by omega) hN
    have s1 := jE (N3 l j) 1 (by omega) hN
    have s2 := jE (N3 l j) 2 (by omega) hN
    have s3 := jE (N3 l j) 3 (by omega) hN
    have d0 := zbV (N3 l j) 0
    have d1 := zbV (N3 l j) 1
    have d2 := zbV (N3 l j) 2
    have d3 := zbV (N3 l j) 3
    have v0 := wg _ d0
    have v1 := wg _ d1
    have v2 := wg _ d2
    have v3 := wg _ d3
    have w0 : IntKind.i64.wrap (((4 * j : Nat) : Int) + 0) = ((4 * j + 0 : Nat) : Int) := by rw [zj (by omega) (by omega)]; omega
    have w1 : IntKind.i64.wrap (((4 * j : Nat) : Int) + 1) = ((4 * j + 1 : Nat) : Int) := by rw [zj (by omega) (by omega)]; omega
    have w2 : IntKind.i64.wrap (((4 * j : Nat) : Int) + 2) = ((4 * j + 2 : Nat) : Int) := by rw [zj (by omega) (by omega)]; omega
    have w3 : IntKind.i64.wrap (((4 * j : Nat) : Int) + 3) = ((4 * j + 3 : Nat) : Int) := by rw [zj (by omega) (by omega)]; omega
    rw [← hat j 0 hlt (by omega), ← w0] at v0
    rw [← hat j 1 hlt (by omega), ← w1] at v1
    rw [← hat j 2 hlt (by omega), ← w2] at v2
    rw [← hat j 3 hlt (by omega), ← w3] at v3
    simp only [Nat.mul_zero, Nat.sub_zero, Nat.mul_one, Nat.reduceMul, Nat.reduceSub, Nat.reducePow, Nat.div_one] at s0 s1 s2 s3
    rw [show N3 l j / 16777216 = 0 by omega] at s0
    have t3 := zhb l j (by omega)
    generalize dgN (N3 l j) 0 = D0 at *
    generalize dgN (N3 l j) 1 = D1 at *
    generalize dgN (N3 l j) 2 = D2 at *
    generalize dgN (N3 l j) 3 = D3 at *
    generalize l.getD (3 * j) 0 = B0 at *
    generalize l.getD (3 * j + 1) 0 = B1 at *
    generalize l.getD (3 * j + 2) 0 = B2 at *
    generalize N3 l j = N at *
    have g0 : 4 * j + 0 < E.size := by omega
    have g1 : 4 * j + 1 < E.size := by omega
    have g2 : 4 * j + 2 < E.size := by omega
    have g3 : 4 * j + 3 < E.size := by omega
    obtain ⟨m1, hm1⟩ : ∃ m, m = N / 262144 := ⟨_, rfl⟩
    obtain ⟨m2, hm2⟩ : ∃ m, m = N / 4096 := ⟨_, rfl⟩
    obtain ⟨m3, hm3⟩ : ∃ m, m = N / 64 := ⟨_, rfl⟩
    have x0 := zeB 0 D0 d0 (by omega)
    have x1 := zeB m1 D1 d1 (by omega)
    have x2 := zeB m2 D2 d2 (by omega)
    have x3 := zeB m3 D3 d3 (by omega)
    rw [show 64 * 0 + D0 = m1 by omega] at x0
    rw [show 64 * m1 + D1 = m2 by omega] at x1
    rw [show 64 * m2 + D2 = m3 by omega] at x2
    rw [show 64 * m3 + D3 = N by omega] at x3
    have z0 : IntKind.i64.wrap ((BitVec.ofInt IntKind.i64.bits (IntKind.i64.wrap (0 * 2 ^ min (Int.toNat 6) IntKind.i64.bits)) ||| BitVec.ofInt IntKind.i64.bits (D0 : Int)).toNat : Int) = (m1 : Int) := x0
    have z1 : IntKind.i64.wrap ((BitVec.ofInt IntKind.i64.bits (IntKind.i64.wrap ((m1 : Int) * 2 ^ min (Int.toNat 6) IntKind.i64.bits)) ||| BitVec.ofInt IntKind.i64.bits (D1 : Int)).toNat : Int) = (m2 : Int) := x1
    have z2 : IntKind.i64.wrap ((BitVec.ofInt IntKind.i64.bits (IntKind.i64.wrap ((m2 : Int) * 2 ^ min (Int.toNat 6) IntKind.i64.bits)) ||| BitVec.ofInt IntKind.i64.bits (D2 : Int)).toNat : Int) = (m3 : Int) := x2
    have z3 : IntKind.i64.wrap ((BitVec.ofInt IntKind.i64.bits (IntKind.i64.wrap ((m3 : Int) * 2 ^ min (Int.toNat 6) IntKind.i64.bits)) ||| BitVec.ofInt IntKind.i64.bits (D3 : Int)).toNat : Int) = (N : Int) := x3
    clear x0 x1 x2 x3
    have y0 : IntKind.u8.wrap ((N : Int) / 2 ^ min (Int.toNat 16) IntKind.i64.bits) = (B0.toNat : Int) := by
      rw [show (2 : Int) ^ min (Int.toNat 16) IntKind.i64.bits = 65536 by decide]
      show ((N : Int) / 65536).emod 256 = _
      have := B0.toNat_lt
      have h1 := b1.1
      have : (N : Int) / 65536 = ((N / 65536 : Nat) : Int) := by omega
      rw [this, h1]
      exact Int.emod_eq_of_lt (by omega) (by omega)
    have y1 : IntKind.u8.wrap ((N : Int) / 2 ^ min (Int.toNat 8) IntKind.i64.bits) = (B1.toNat : Int) := by
      rw [show (2 : Int) ^ min (Int.toNat 8) IntKind.i64.bits = 256 by decide]
      show ((N : Int) / 256).emod 256 = _
      have h1 := b1.2.1
      have : ((N : Int) / 256) % 256 = ((N / 256 % 256 : Nat) : Int) := by omega
      exact this.trans (by rw [h1])
    have y2 : IntKind.u8.wrap (N : Int) = (B2.toNat : Int) := by
      show (N : Int).emod 256 = _
      have h1 := b1.2.2
      have : (N : Int) % 256 = ((N % 256 : Nat) : Int) := by omega
      exact this.trans (by rw [h1])
    clear b1 s0 s1 s2 s3 hat hm1 hm2 hm3
    repeat' (first | refine wC ?_ | (exfalso; omega) | refine wK ?_ | refine zm rfl ?_ ?_ <;> intro hc | fail)
    refine zb (za [0, 2, 3, 4, 5, 6, 25] [.loc 900] rfl rfl) ?_
    refine zf (fun q env st => (q = 4 ∧ env = EnvL.get [(0, .t (.str E)), (2, .t (.str ⟨#[]⟩)), (3, .t (.int .i64 0)), (4, .row (.loc 900)), (5, .t (.int .i64 ((4 * j : Nat) : Int))), (6, .t (.int .i64 0)), (25, .t (.int .i64 0))] ∧ st = StO.get [(.loc 900, some (.slt 5 1 ((l.take (3 * j)).map u8T)))]) ∨ (q = 3 ∧ env = EnvL.get [(0, .t (.str E)), (2, .t (.str ⟨#[]⟩)), (3, .t (.int .i64 0)), (4, .row (.loc 900)), (5, .t (.int .i64 ((4 * j : Nat) : Int))), (6, .t (.int .i64 (m1 : Int))), (25, .t (.int .i64 1))] ∧ st = StO.get [(.loc 900, some (.slt 5 1 ((l.take (3 * j)).map u8T)))]) ∨ (q = 2 ∧ env = EnvL.get [(0, .t (.str E)), (2, .t (.str ⟨#[]⟩)), (3, .t (.int .i64 0)), (4, .row (.loc 900)), (5, .t (.int .i64 ((4 * j : Nat) : Int))), (6, .t (.int .i64 (m2 : Int))), (25, .t (.int .i64 2))] ∧ st = StO.get [(.loc 900, some (.slt 5 1 ((l.take (3 * j)).map u8T)))]) ∨ (q = 1 ∧ env = EnvL.get [(0, .t (.str E)), (2, .t (.str ⟨#[]⟩)), (3, .t (.int .i64 0)), (4, .row (.loc 900)), (5, .t (.int .i64 ((4 * j : Nat) : Int))), (6, .t (.int .i64 (m3 : Int))), (25, .t (.int .i64 3))] ∧ st = StO.get [(.loc 900, some (.slt 5 1 ((l.take (3 * j)).map u8T)))]) ∨ (q = 0 ∧ env = EnvL.get [(0, .t (.str E)), (2, .t (.str ⟨#[]⟩)), (3, .t (.int .i64 0)), (4, .row (.loc 900)), (5, .t (.int .i64 ((4 * j : Nat) : Int))), (6, .t (.int .i64 (N : Int))), (25, .t (.int .i64 4))] ∧ st = StO.get [(.loc 900, some (.slt 5 1 ((l.take (3 * j)).map u8T)))]))
      ?_ (n := 4) (.inl ⟨rfl, rfl, rfl⟩)
    rintro q env st (⟨rfl, rfl, rfl⟩ | ⟨rfl, rfl, rfl⟩ | ⟨rfl, rfl, rfl⟩ | ⟨rfl, rfl, rfl⟩ | ⟨rfl, rfl, rfl⟩)
    · repeat' (first | refine wC ?_ | refine wK ?_ | ((with_reducible refine yf ?_); refine zy rfl rfl rfl rfl rfl rfl ?_ ?_ ?_) | ((with_reducible refine zk ?_); refine wL v0 ?_) | fail)
      all_goals try (rw [w0]; omega)
      all_goals try (simp only [w0]; omega)
      all_goals exact zv (n' := 3) (by omega) (za [0, 2, 3, 4, 5, 6, 25] [.loc 900] rfl rfl) (.inr (.inl ⟨rfl, by rw [z0]; rfl, rfl⟩))
    · repeat' (first | refine wC ?_ | refine wK ?_ | ((with_reducible refine yf ?_); refine zy rfl rfl rfl rfl rfl rfl ?_ ?_ ?_) | ((with_reducible refine zk ?_); refine wL v1 ?_) | fail)
      all_goals try (rw [w1]; omega)
      all_goals try (simp only [w1]; omega)
      all_goals exact zv (n' := 2) (by omega) (za [0, 2, 3, 4, 5, 6, 25] [.loc 900] rfl rfl) (.inr (.inr (.inl ⟨rfl, by rw [z1]; rfl, rfl⟩)))
    · repeat' (first | refine wC ?_ | refine wK ?_ | ((with_reducible refine yf ?_); refine zy rfl rfl rfl rfl rfl rfl ?_ ?_ ?_) | ((with_reducible refine zk ?_); refine wL v2 ?_) | fail)
      all_goals try (rw [w2]; omega)
      all_goals try (simp only [w2]; omega)
      all_goals exact zv (n' := 1) (by omega) (za [0, 2, 3, 4, 5, 6, 25] [.loc 900] rfl rfl) (.inr (.inr (.inr (.inl ⟨rfl, by rw [z2]; rfl, rfl⟩))))
    · repeat' (first | refine wC ?_ | refine wK ?_ | ((with_reducible refine yf ?_); refine zy rfl rfl rfl rfl rfl rfl ?_ ?_ ?_) | ((with_reducible refine zk ?_); refine wL v3 ?_) | fail)
      all_goals try (rw [w3]; omega)
      all_goals try (simp only [w3]; omega)
      all_goals exact zv (n' := 0) (by omega) (za [0, 2, 3, 4, 5, 6, 25] [.loc 900] rfl rfl) (.inr (.inr (.inr (.inr ⟨rfl, by rw [z3]; rfl, rfl⟩))))
    · repeat' (first | refine wC ?_ | refine wK ?_ | ((with_reducible refine zQ ?_); refine zq rfl rfl rfl rfl rfl rfl rfl rfl rfl rfl ?_ ?_ ?_) | fail)
      all_goals try (simp only [List.length_map, List.length_cons, List.length_nil, List.length_take]; omega)
      all_goals exact zv (n' := k - (j + 1)) (by omega) ((za [0, 2, 3, 4, 5] [.loc 54] rfl rfl).trans (zo (.loc 54) (.loc 900) rfl rfl rfl rfl)) ⟨j + 1, by omega, rfl, by rw [wj]; rfl, by rw [t3, List.map_append, y0, y1, y2]; rfl⟩
  · obtain rfl : j = k := by omega
    rw [← hl, List.take_length]
    repeat' (first | refine wC ?_ | (exfalso; omega) | refine wK ?_ | ((with_reducible refine zN ?_); refine zw rfl rfl rfl rfl rfl rfl ?_ ?_) | refine zm rfl ?_ ?_ <;> intro hc | fail)
    all_goals first | exact qa l | omega | exact zx (yo rfl rfl rfl (congrArg T.str (vi l)) rfl) (by simp)
set_option maxHeartbeats 2000000 in
theorem zax : Spec Try.prog 133 [.t (.int .i64 2)] [] (.t (.int .i64 32)) [] := by
  refine wI Try.func133 ?_
  repeat' (first | refine wC ?_ | refine yT (es := [0, 32, 32, 32, 32, 16, 2, 626, 6].map (T.int .i64)) rfl rfl rfl rfl rfl rfl ?_ | refine wK ?_ | ((with_reducible refine ze ?_); refine zi rfl rfl rfl rfl rfl rfl ?_ ?_ ?_) | fail)
  all_goals first | decide | rfl | exact zx (zd rfl rfl rfl) (by simp)
set_option maxHeartbeats 2000000 in
theorem za7 : Spec Try.prog 127 [.t (.int .i64 1)] [] (.tup [.t (.str ⟨#[69]⟩), .t (.bool true)]) [] := by
  refine wI Try.func127 ?_
  repeat' (first | refine wC ?_ | refine yT (es := ([⟨#[]⟩, ⟨#[69]⟩, ⟨#[68]⟩, ⟨#[66]⟩, ⟨#[65]⟩, ⟨#[48, 65]⟩, ⟨#[77]⟩, ⟨#[83]⟩, ⟨#[49, 65, 65, 76]⟩] : List ByteArray).map T.str) rfl rfl rfl rfl rfl rfl ?_ | refine wK ?_ | ((with_reducible refine ze ?_); refine zi rfl rfl rfl rfl rfl rfl ?_ ?_ ?_) | fail)
  all_goals first | decide | rfl | exact zx (yo rfl rfl rfl rfl rfl) (by simp)
set_option maxHeartbeats 2000000 in
theorem qR : Spec Try.prog 127 [.t (.int .i64 2)] [] (.tup [.t (.str ⟨#[68]⟩), .t (.bool true)]) [] := by
  refine wI Try.func127 ?_
  repeat' (first | refine wC ?_ | refine yT (es := ([⟨#[]⟩, ⟨#[69]⟩, ⟨#[68]⟩, ⟨#[66]⟩, ⟨#[65]⟩, ⟨#[48, 65]⟩, ⟨#[77]⟩, ⟨#[83]⟩, ⟨#[49, 65, 65, 76]⟩] : List ByteArray).map T.str) rfl rfl rfl rfl rfl rfl ?_ | refine wK ?_ | ((with_reducible refine ze ?_); refine zi rfl rfl rfl rfl rfl rfl ?_ ?_ ?_) | fail)
  all_goals first | decide | rfl | exact zx (yo rfl rfl rfl rfl rfl) (by simp)
set_option maxHeartbeats 2000000 in
theorem kw : Spec Try.prog 129 [.t (.int .i64 2)] [] (.t (.int .i64 1)) [] := by
  have hR := zax
  refine wI Try.func129 ?_
  repeat' (first | refine wC ?_ | refine wK ?_ | ((with_reducible refine zk ?_); refine wL hR ?_) | fail)
  all_goals first | decide | rfl | exact zx (zd rfl rfl (congrArg (T.int .i64) (by decide))) (by simp)
set_option maxHeartbeats 2000000 in
theorem zdg : Spec Try.prog 128 [.t (.int .i64 2)] [] (.t (.int .i64 44)) [] := by
  have hR := zax
  have hL := kw
  have hC := qR
  refine wI Try.func128 ?_
  repeat' (first | refine wC ?_ | refine wK ?_ | ((with_reducible refine zk ?_); first | refine wL hR ?_ | refine wL hL ?_ | refine wL hC ?_) | fail)
  all_goals first | decide | rfl | exact zx (zd rfl rfl (congrArg (T.int .i64) (by decide))) (by simp)
theorem zeQ (r : ByteArray) (hr : r.size = 32) : ∃ X : ByteArray, kF 2 r = ⟨#[68]⟩ ++ X ∧ X.size = 43 ∧ ⟨#[65]⟩ ++ X = ofL (zaP 11 (0 :: r.data.toList)) := by
  have hl : r.data.toList.length = 32 := by rw [Array.length_toList]; exact hr
  have hl2 : (0 :: r.data.toList).length = 3 * 11 := by simp [hl]
  have hs : zbe 1 ++ r = ofL (0 :: r.data.toList) := by
    apply ByteArray.ext
    show (zbe 1 ++ r).data = (0 :: r.data.toList).toArray
    rw [ByteArray.data_append]
    show #[0] ++ r.data = _
    apply Array.ext'
    simp
  have hz : (zbe 1 ++ r).size = 33 := by rw [hs, xl, hl2]
  have hb : (xn (zbe 1 ++ r)).1 = ofL (zaP 11 (0 :: r.data.toList)) := by
    have q3 : ((zbe 1 ++ r).size : Int).tmod 3 = (((zbe 1 ++ r).size % 3 : Nat) : Int) := rfl
    unfold xn
    rw [if_neg (by omega), if_neg (by rw [q3, hz]; decide)]
    show vZ (zd2 ((zbe 1 ++ r).size / 3) (zbe 1 ++ r)) = _
    rw [hz, hs, zeu 11 _ hl2, vi]
  have hE : (ofL (zaP 11 (0 :: r.data.toList))).size = 44 := by rw [xl, qd 11 _ hl2]
  obtain ⟨t, ht⟩ : ∃ t, zaP 11 (0 :: r.data.toList) = 65 :: t := by
    obtain ⟨b, c, l, he⟩ : ∃ b c l, r.data.toList = b :: c :: l := by
      match hrl : r.data.toList, hl with
      | b :: c :: l, _ => exact ⟨b, c, l, rfl⟩
    rw [he]
    refine ⟨[alC (dgN (65536 * (0 : UInt8).toNat + 256 * b.toNat + c.toNat) 1), alC (dgN (65536 * (0 : UInt8).toNat + 256 * b.toNat + c.toNat) 2), alC (dgN (65536 * (0 : UInt8).toNat + 256 * b.toNat + c.toNat) 3)] ++ zaP 10 l, ?_⟩
    have hb := b.toNat_lt
    have hc := c.toNat_lt
    have h0 : dgN (65536 * (0 : UInt8).toNat + 256 * b.toNat + c.toNat) 0 = 0 := by
      unfold dgN
      simp only [Nat.mul_zero, Nat.sub_zero, Nat.reducePow]
      have : (0 : UInt8).toNat = 0 := rfl
      omega
    rw [zaP, qdB, h0]
    rfl
  have htl : t.length = 43 := by
    have := qd 11 _ hl2
    rw [ht, List.length_cons] at this
    omega
  refine ⟨ofL t, ?_, by rw [xl]; exact htl, ?_⟩
  · unfold kF
    rw [show (ldS (qi 2)).toNat = 1 from by decide, hb, yz, hE, ht]
    rw [show ((65 :: t).drop 1).take (44 - 1) = t from by rw [List.drop_one, List.tail_cons, List.take_of_length_le (by omega)]]
    rfl
  · rw [ht]
    apply ByteArray.ext
    rw [ByteArray.data_append]
    show #[65] ++ t.toArray = (65 :: t).toArray
    apply Array.ext'
    simp
set_option maxHeartbeats 16000000 in
theorem zeq (r : ByteArray) (hr : r.size = 32) : Spec Try.prog 117 [.t (.str (kF 2 r))] [] (.tup [.t (.agg [.int .i64 2, .str r]), .t (.int .i64 44), .t (.int .i64 0)]) [] := by
  obtain ⟨X, hX, hXz, hXE⟩ := zeQ r hr
  have hD := zdt 11 (0 :: r.data.toList) (by simp; exact hr) (by omega)
  rw [← hXE] at hD
  clear hXE
  rw [hX]
  obtain ⟨T, hT⟩ : ∃ T, T = (⟨#[68]⟩ ++ X : ByteArray) := ⟨_, rfl⟩
  have hTz : T.size = 44 := by rw [hT, ByteArray.size_append, hXz]; rfl
  have hT0 : T.extract 0 1 = ⟨#[68]⟩ := by rw [hT]; exact ByteArray.extract_append_eq_left (by rfl)
  have hT1 : T.extract 1 44 = X := by rw [hT]; exact ByteArray.extract_append_eq_right (by rfl) (by rw [hXz]; rfl)
  rw [← hT]
  clear hX hT
  obtain ⟨R, hR⟩ : ∃ R, R = ofL (0 :: r.data.toList) := ⟨_, rfl⟩
  rw [← hR] at hD
  have hRz : R.size = 33 := by rw [hR, xl]; simp; exact hr
  have hR0 : R.extract 0 1 = ⟨#[0]⟩ := by rw [hR, yz]; rfl
  have hR1 : R.extract 1 R.size = r := by
    rw [hRz, hR, yz, show ((0 :: r.data.toList).drop 1).take (33 - 1) = r.data.toList from by rw [List.drop_one, List.tail_cons, List.take_of_length_le (by rw [Array.length_toList]; show r.size ≤ _; omega)]]
    exact we r
  clear hR
  have z69 : (⟨#[69]⟩ : ByteArray).size = 1 := rfl
  have z68 : (⟨#[68]⟩ : ByteArray).size = 1 := rfl
  have z65 : (⟨#[65, 65]⟩ : ByteArray).size = 2 := rfl
  have z00 : (⟨#[0, 0]⟩ : ByteArray).size = 2 := rfl
  have n69 : ¬ T.extract 0 ((⟨#[69]⟩ : ByteArray).size : Int).toNat = ⟨#[69]⟩ := by
    show ¬ T.extract 0 1 = _
    rw [hT0]; intro h; exact absurd (congrArg (fun b => bAt b 0) h) (by decide)
  have p68 : T.extract 0 ((⟨#[68]⟩ : ByteArray).size : Int).toNat = ⟨#[68]⟩ := hT0
  have hAA : (⟨#[65, 65]⟩ : ByteArray).extract 0 (1 : Int).toNat ++ T.extract ((⟨#[68]⟩ : ByteArray).size : Int).toNat (44 : Int).toNat = ⟨#[65]⟩ ++ X := by
    rw [show T.extract ((⟨#[68]⟩ : ByteArray).size : Int).toNat (44 : Int).toNat = X from hT1, show (⟨#[65, 65]⟩ : ByteArray).extract 0 (1 : Int).toNat = ⟨#[65]⟩ from (yz [65, 65] 0 1).trans rfl]
  rw [← hAA] at hD
  have hAz : ((⟨#[65, 65]⟩ : ByteArray).extract (0 : Int).toNat (1 : Int).toNat).size = 1 := by rw [ByteArray.size_extract]; rfl
  have hTz2 : (T.extract ((⟨#[68]⟩ : ByteArray).size : Int).toNat (44 : Int).toNat).size = 43 := by rw [show T.extract ((⟨#[68]⟩ : ByteArray).size : Int).toNat (44 : Int).toNat = X from hT1]; exact hXz
  have p0 : R.extract 0 (1 : Int).toNat = (⟨#[0, 0]⟩ : ByteArray).extract 0 (1 : Int).toNat := by
    rw [show (⟨#[0, 0]⟩ : ByteArray).extract 0 (1 : Int).toNat = ⟨#[0]⟩ from (yz [0, 0] 0 1).trans rfl]; exact hR0
  rw [← hR1]
  clear hAA hR0 hT0 hT1 hR1
  have c1 := za7
  have c2 := qR
  have hSz := zdg
  have hL := kw
  refine wI Try.func117 ?_
  repeat' (first | refine wC ?_ | refine wK ?_ | fail)
  refine zb (za [0, 2, 3, 4, 5] [.loc 2] rfl rfl) ?_
  refine zf (fun q env st => (q = 1 ∧ env = EnvL.get [(0, .t (.str T)), (2, .ref (.loc 2) 0 0 0), (3, .t (.int .i64 0)), (4, .t (.int .i64 0)), (5, .t (.int .i64 1))] ∧ st = StO.get [(.loc 2, some (.var 86 [.t (.int .i64 0), .t (.str ⟨#[]⟩)]))]) ∨ (q = 0 ∧ env = EnvL.get [(0, .t (.str T)), (2, .ref (.loc 2) 0 0 0), (3, .t (.int .i64 0)), (4, .t (.int .i64 0)), (5, .t (.int .i64 2))] ∧ st = StO.get [(.loc 2, some (.var 86 [.t (.int .i64 0), .t (.str ⟨#[]⟩)]))]))
    ?_ (n := 1) (.inl ⟨rfl, rfl, rfl⟩)
  rintro q env st (⟨rfl, rfl, rfl⟩ | ⟨rfl, rfl, rfl⟩)
  · repeat' (first | refine wC ?_ | (exfalso; omega) | exact absurd ‹_› n69 | refine wK ?_ | ((with_reducible refine yn ?_); refine zr rfl rfl rfl ⟨_, rfl⟩ rfl rfl rfl ?_ ?_ ?_ ?_) | ((with_reducible refine zk ?_); refine wL c1 ?_) | refine yH rfl ?_ ?_ <;> intro hc | refine xG rfl ?_ ?_ <;> intro hc | fail)
    all_goals try omega
    all_goals exact zv (n' := 0) (by omega) (za [0, 2, 3, 4, 5] [.loc 2] rfl rfl) (.inr ⟨rfl, rfl, rfl⟩)
  · repeat' (first | refine wC ?_ | (exfalso; omega) | exact absurd p68 ‹_› | exact absurd p0 ‹_› | refine wK ?_ | ((with_reducible refine zJ ?_); refine zI rfl rfl rfl rfl rfl rfl ?_ ?_) | ((with_reducible refine yn ?_); first | refine zr rfl rfl rfl ⟨_, rfl⟩ rfl rfl rfl ?_ ?_ ?_ ?_ | refine zr rfl rfl ⟨_, rfl⟩ rfl rfl rfl rfl ?_ ?_ ?_ ?_ | refine zr rfl rfl ⟨_, rfl⟩ ⟨_, rfl⟩ rfl rfl rfl ?_ ?_ ?_ ?_) | ((with_reducible refine zk ?_); first | refine wL c2 ?_ | refine wL hSz ?_ | refine wL hL ?_ | refine wL hD ?_) | refine zm rfl ?_ ?_ <;> intro hc | refine yH rfl ?_ ?_ <;> intro hc | refine xG rfl ?_ ?_ <;> intro hc | fail)
    all_goals try omega
    all_goals (refine zx ?_ (zC trivial); refine ki rfl rfl rfl inferInstance rfl inferInstance rfl ?_ ?_ ?_; exact TLe.av wT; exact AVLE.refl _; exact AVLE.refl _)
set_option maxHeartbeats 2000000 in
theorem zcU (r : ByteArray) (hr : r.size = 32) : Spec Try.prog 102 [.t (.int .i64 2), .t (.str (kF 2 r))] [] (.tup [.t (.str r), .t (.int .i64 0)]) [] := by
  have hD := zeq r hr
  have hz : (kF 2 r).size = 44 := by
    have := zdp 2 (by omega) (by omega) r (by rw [hr]; rfl)
    have h2 : zg5 2 = 44 := by decide
    omega
  generalize kF 2 r = T at *
  refine wI Try.func102 ?_
  repeat' (first | refine wC ?_ | (exfalso; omega) | refine wK ?_ | ((with_reducible refine zk ?_); refine wL hD ?_) | refine yH rfl ?_ ?_ <;> intro hc | fail)
  all_goals first | omega | exact zx (yo rfl rfl rfl rfl rfl) (by simp)
theorem jw (a b : List UInt8) : ofL a ++ ofL b = ofL (a ++ b) := by
  apply ByteArray.ext
  rw [ByteArray.data_append]
  show a.toArray ++ b.toArray = (a ++ b).toArray
  simp
theorem jg (P B Q : ByteArray) (i j : Nat) (hi : P.size = i) (hj : P.size + B.size = j) : (P ++ B ++ Q).extract i j = B := by
  obtain ⟨p, rfl⟩ : ∃ p, P = ofL p := ⟨_, (we P).symm⟩
  obtain ⟨b, rfl⟩ : ∃ b, B = ofL b := ⟨_, (we B).symm⟩
  obtain ⟨q, rfl⟩ : ∃ q, Q = ofL q := ⟨_, (we Q).symm⟩
  subst hi; subst hj
  rw [jw, jw, yz]
  simp only [xl, Nat.add_sub_cancel_left, List.append_assoc, List.drop_left, List.take_left]
theorem zgl (P Q : ByteArray) (h : 0 < P.size) : bAt (P ++ Q) 0 = bAt P 0 := by
  obtain ⟨p, rfl⟩ : ∃ p, P = ofL p := ⟨_, (we P).symm⟩
  obtain ⟨q, rfl⟩ : ∃ q, Q = ofL q := ⟨_, (we Q).symm⟩
  rw [jw]
  cases p with
  | nil => exact absurd h (by decide)
  | cons x p => rfl
theorem zah (s m : ByteArray) (u : Nat) (hu : u < 8) : bAt (ktS s u m) 0 = (u : Int) ∧ (ktS s u m).extract 1 577 = zdk (vN s (u : Int)) m ∧ (ktS s u m).extract 577 593 = ktB s u 0 ∧ (ktS s u m).extract 593 609 = ktB s u 1 ∧ (ktS s u m).extract 609 625 = ktB s u 2 := by
  have z1 := wZ (vN s (u : Int)) m
  have z0 := qf (u : Int)
  have y0 : (ktB s u 0).size = 16 := zM ..
  have y1 : (ktB s u 1).size = 16 := zM ..
  have y2 : (ktB s u 2).size = 16 := zM ..
  have hb : bAt (byS (u : Int)) 0 = (u : Int) := by
    have : u = 0 ∨ u = 1 ∨ u = 2 ∨ u = 3 ∨ u = 4 ∨ u = 5 ∨ u = 6 ∨ u = 7 := by omega
    rcases this with rfl | rfl | rfl | rfl | rfl | rfl | rfl | rfl <;> rfl
  unfold ktS
  generalize zdk (vN s (u : Int)) m = A at *
  generalize ktB s u 0 = B0 at *
  generalize ktB s u 1 = B1 at *
  generalize ktB s u 2 = B2 at *
  generalize byS (u : Int) = Z at *
  have s1 : (Z ++ A).size = 577 := by rw [ByteArray.size_append]; omega
  have s2 : (Z ++ A ++ B0).size = 593 := by rw [ByteArray.size_append]; omega
  have s3 : (Z ++ A ++ B0 ++ B1).size = 609 := by rw [ByteArray.size_append]; omega
  refine ⟨?_, ?_, ?_, ?_, ?_⟩
  · rw [ByteArray.append_assoc, ByteArray.append_assoc, ByteArray.append_assoc, zgl _ _ (by omega)]; exact hb
  · rw [ByteArray.append_assoc, ByteArray.append_assoc]; exact jg _ _ _ _ _ z0 (by omega)
  · rw [ByteArray.append_assoc (a := Z ++ A ++ B0)]; exact jg _ _ _ _ _ s1 (by omega)
  · exact jg _ _ _ _ _ s2 (by omega)
  · have := jg (Z ++ A ++ B0 ++ B1) B2 ByteArray.empty 609 625 s3 (by omega)
    rwa [ByteArray.append_empty] at this
theorem zfM (u k : Nat) (kk : Int) (hkk : kk = k) (hu : u < 8) (hk : k < 3) : IntKind.u8.wrap ↑(BitVec.ofInt IntKind.u8.bits ((u : Int) / 2 ^ min (IntKind.u64.wrap kk).toNat IntKind.u8.bits) &&& BitVec.ofInt IntKind.u8.bits 1).toNat = ((u / 2 ^ k % 2 : Nat) : Int) := by
  have h : ∀ k : Fin 3, ∀ u : Fin 8, IntKind.u8.wrap ↑(BitVec.ofInt IntKind.u8.bits (((u.val : Nat) : Int) / 2 ^ min (IntKind.u64.wrap ((k.val : Nat) : Int)).toNat IntKind.u8.bits) &&& BitVec.ofInt IntKind.u8.bits 1).toNat = ((u.val / 2 ^ k.val % 2 : Nat) : Int) := by decide
  subst hkk; exact h ⟨k, hk⟩ ⟨u, hu⟩
set_option maxRecDepth 2000 in
set_option maxHeartbeats 16000000 in
theorem za5 (s m : ByteArray) (u : Nat) (hu : u < 8) (hs : s.size ≤ 900000) (hm : m.size ≤ 900000) : Spec Try.prog 84 [.t (.str (kF 2 (ktP s))), .t (.str m), .t (.str (ktS s u m))] [] (.t (.bool true)) [] := by
  have hO := zcU (ktP s) (zb3 s)
  obtain ⟨p0, p1, p2, p3, p4⟩ := zah s m u hu
  have hz := zbZ s u m
  have zG := wZ (vN s (u : Int)) m
  have hR := kV m (zdk (vN s (u : Int)) m) hm (by omega)
  have eR : zg1 m (zdk (vN s (u : Int)) m) = zca (vN s (u : Int)) := by unfold zg1; rw [if_pos zG, zfx]
  rw [eR, ← p1] at hR
  generalize kF 2 (ktP s) = K at *
  generalize hG : ktS s u m = G at *
  have zP : (zca (vN s (u : Int))).size = 16 := yL _
  have hL := xQ (⟨#[0]⟩ ++ zca (vN s (u : Int))) (by rw [ByteArray.size_append, zP]; decide)
  rw [show yu (⟨#[0]⟩ ++ zca (vN s (u : Int))) = ktL s 0 u from rfl] at hL
  generalize zca (vN s (u : Int)) = PB at *
  have z0 : (⟨#[0]⟩ : ByteArray).size = 1 := rfl
  refine wI Try.func84 ?_
  repeat' (first | refine wC ?_ | (exfalso; omega) | refine wK ?_ | ((with_reducible refine zJ ?_); refine zI rfl rfl rfl rfl rfl rfl ?_ ?_) | ((with_reducible refine yf ?_); refine zy rfl rfl rfl rfl rfl rfl ?_ ?_ ?_) | ((with_reducible refine yn ?_); refine zr rfl rfl ⟨_, rfl⟩ ⟨_, rfl⟩ rfl rfl rfl ?_ ?_ ?_ ?_) | ((with_reducible refine zk ?_); first | refine wL hO ?_ | refine wL hR ?_ | refine wL hL ?_) | refine zm rfl ?_ ?_ <;> intro hc | refine zaC rfl ?_ ?_ <;> intro hc | fail)
  all_goals try omega
  obtain ⟨e9, he9⟩ : ∃ e : Int, e = 577 := ⟨_, rfl⟩
  refine zb (za [2, 6, 7, 9, 12, 50] [] rfl rfl) ?_
  refine zf (fun q env st => (q = 3 ∧ env = EnvL.get [(2, .t (.str G)), (6, .t (.bool false)), (7, .t (.str (ktP s))), (9, .t (.int .i64 e9)), (12, .t (.str (ktL s 0 (u / 2 ^ 0)))), (50, .t (.int .i64 0))] ∧ st = StO.get []) ∨ (q = 2 ∧ env = EnvL.get [(2, .t (.str G)), (6, .t (.bool false)), (7, .t (.str (ktP s))), (9, .t (.int .i64 e9)), (12, .t (.str (ktL s 1 (u / 2 ^ 1)))), (50, .t (.int .i64 1))] ∧ st = StO.get []) ∨ (q = 1 ∧ env = EnvL.get [(2, .t (.str G)), (6, .t (.bool false)), (7, .t (.str (ktP s))), (9, .t (.int .i64 e9)), (12, .t (.str (ktL s 2 (u / 2 ^ 2)))), (50, .t (.int .i64 2))] ∧ st = StO.get []) ∨ (q = 0 ∧ env = EnvL.get [(2, .t (.str G)), (6, .t (.bool false)), (7, .t (.str (ktP s))), (9, .t (.int .i64 e9)), (12, .t (.str (ktL s 3 (u / 2 ^ 3)))), (50, .t (.int .i64 3))] ∧ st = StO.get []))
    ?_ (n := 3) (.inl ⟨rfl, by rw [he9, show u / 2 ^ 0 = u from Nat.div_one u]; rfl, rfl⟩)
  rintro q env st (⟨rfl, rfl, rfl⟩ | ⟨rfl, rfl, rfl⟩ | ⟨rfl, rfl, rfl⟩ | ⟨rfl, rfl, rfl⟩)
  · have hup := zgg s u 0 hu (by omega)
    have e1 := zM s 0 (u / 2 ^ 0)
    have e2 : (ktB s u 0).size = 16 := zM ..
    have hn1 := y9 (ktL s 0 (u / 2 ^ 0)) (ktB s u 0) (by omega) (by omega)
    have hn2 := y9 (ktB s u 0) (ktL s 0 (u / 2 ^ 0)) (by omega) (by omega)
    have hlo : IntKind.i64.wrap (e9 + IntKind.i64.wrap (0 * 16)) = 577 := by rw [he9]; decide
    have hhi : IntKind.i64.wrap (e9 + IntKind.i64.wrap (IntKind.i64.wrap (0 + 1) * 16)) = 593 := by rw [he9]; decide
    have hy : G.extract (IntKind.i64.wrap (e9 + IntKind.i64.wrap (0 * 16))).toNat (IntKind.i64.wrap (e9 + IntKind.i64.wrap (IntKind.i64.wrap (0 + 1) * 16))).toNat = ktB s u 0 := by
      rw [hlo, hhi]; exact p2
    clear he9
    have hcond := zfM u 0 0 rfl hu (by omega)
    rw [← p0] at hcond
    repeat' (first | refine wC ?_ | refine wK ?_ | ((with_reducible refine yf ?_); refine zy rfl rfl rfl rfl rfl rfl ?_ ?_ ?_) | ((with_reducible refine yn ?_); refine zr rfl rfl ⟨_, rfl⟩ ⟨_, rfl⟩ rfl rfl rfl ?_ ?_ ?_ ?_) | refine zm rfl ?_ ?_ <;> intro hc | fail)
    · rw [hlo]; decide
    · rw [hlo, hhi]; decide
    · rw [hhi]; omega
    · omega
    · omega
    · rw [show _ = _ from hcond] at hc
      have hb : u / 2 ^ 0 % 2 = 0 := by omega
      rw [if_pos hb] at hup
      rw [← hup] at hn1
      rw [hy]
      clear hn2 hb hc hcond hlo hhi hy
      repeat' (first | refine wC ?_ | refine wK ?_ | ((with_reducible refine zk ?_); refine wL hn1 ?_) | fail)
      exact zv (n' := 2) (by omega) (za [2, 6, 7, 9, 12, 50] [] rfl rfl) (.inr (.inl ⟨rfl, rfl, rfl⟩))
    · rw [show _ = _ from hcond] at hc
      have hb : ¬ u / 2 ^ 0 % 2 = 0 := by omega
      rw [if_neg hb] at hup
      rw [← hup] at hn2
      rw [hy]
      clear hn1 hb hc hcond hlo hhi hy
      repeat' (first | refine wC ?_ | refine wK ?_ | ((with_reducible refine zk ?_); refine wL hn2 ?_) | fail)
      exact zv (n' := 2) (by omega) (za [2, 6, 7, 9, 12, 50] [] rfl rfl) (.inr (.inl ⟨rfl, rfl, rfl⟩))
  · have hup := zgg s u 1 hu (by omega)
    have e1 := zM s 1 (u / 2 ^ 1)
    have e2 : (ktB s u 1).size = 16 := zM ..
    have hn1 := y9 (ktL s 1 (u / 2 ^ 1)) (ktB s u 1) (by omega) (by omega)
    have hn2 := y9 (ktB s u 1) (ktL s 1 (u / 2 ^ 1)) (by omega) (by omega)
    have hlo : IntKind.i64.wrap (e9 + IntKind.i64.wrap (1 * 16)) = 593 := by rw [he9]; decide
    have hhi : IntKind.i64.wrap (e9 + IntKind.i64.wrap (IntKind.i64.wrap (1 + 1) * 16)) = 609 := by rw [he9]; decide
    have hy : G.extract (IntKind.i64.wrap (e9 + IntKind.i64.wrap (1 * 16))).toNat (IntKind.i64.wrap (e9 + IntKind.i64.wrap (IntKind.i64.wrap (1 + 1) * 16))).toNat = ktB s u 1 := by
      rw [hlo, hhi]; exact p3
    clear he9
    have hcond := zfM u 1 1 rfl hu (by omega)
    rw [← p0] at hcond
    repeat' (first | refine wC ?_ | refine wK ?_ | ((with_reducible refine yf ?_); refine zy rfl rfl rfl rfl rfl rfl ?_ ?_ ?_) | ((with_reducible refine yn ?_); refine zr rfl rfl ⟨_, rfl⟩ ⟨_, rfl⟩ rfl rfl rfl ?_ ?_ ?_ ?_) | refine zm rfl ?_ ?_ <;> intro hc | fail)
    · rw [hlo]; decide
    · rw [hlo, hhi]; decide
    · rw [hhi]; omega
    · omega
    · omega
    · rw [show _ = _ from hcond] at hc
      have hb : u / 2 ^ 1 % 2 = 0 := by omega
      rw [if_pos hb] at hup
      rw [← hup] at hn1
      rw [hy]
      clear hn2 hb hc hcond hlo hhi hy
      repeat' (first | refine wC ?_ | refine wK ?_ | ((with_reducible refine zk ?_); refine wL hn1 ?_) | fail)
      exact zv (n' := 1) (by omega) (za [2, 6, 7, 9, 12, 50] [] rfl rfl) (.inr (.inr (.inl ⟨rfl, rfl, rfl⟩)))
    · rw [show _ = _ from hcond] at hc
      have hb : ¬ u / 2 ^ 1 % 2 = 0 := by omega
      rw [if_neg hb] at hup
      rw [← hup] at hn2
      rw [hy]
      clear hn1 hb hc hcond hlo hhi hy
      repeat' (first | refine wC ?_ | refine wK ?_ | ((with_reducible refine zk ?_); refine wL hn2 ?_) | fail)
      exact zv (n' := 1) (by omega) (za [2, 6, 7, 9, 12, 50] [] rfl rfl) (.inr (.inr (.inl ⟨rfl, rfl, rfl⟩)))
  · have hup := zgg s u 2 hu (by omega)
    have e1 := zM s 2 (u / 2 ^ 2)
    have e2 : (ktB s u 2).size = 16 := zM ..
    have hn1 := y9 (ktL s 2 (u / 2 ^ 2)) (ktB s u 2) (by omega) (by omega)
    have hn2 := y9 (ktB s u 2) (ktL s 2 (u / 2 ^ 2)) (by omega) (by omega)
    have hlo : IntKind.i64.wrap (e9 + IntKind.i64.wrap (2 * 16)) = 609 := by rw [he9]; decide
    have hhi : IntKind.i64.wrap (e9 + IntKind.i64.wrap (IntKind.i64.wrap (2 + 1) * 16)) = 625 := by rw [he9]; decide
    have hy : G.extract (IntKind.i64.wrap (e9 + IntKind.i64.wrap (2 * 16))).toNat (IntKind.i64.wrap (e9 + IntKind.i64.wrap (IntKind.i64.wrap (2 + 1) * 16))).toNat = ktB s u 2 := by
      rw [hlo, hhi]; exact p4
    clear he9
    have hcond := zfM u 2 2 rfl hu (by omega)
    rw [← p0] at hcond
    repeat' (first | refine wC ?_ | refine wK ?_ | ((with_reducible refine yf ?_); refine zy rfl rfl rfl rfl rfl rfl ?_ ?_ ?_) | ((with_reducible refine yn ?_); refine zr rfl rfl ⟨_, rfl⟩ ⟨_, rfl⟩ rfl rfl rfl ?_ ?_ ?_ ?_) | refine zm rfl ?_ ?_ <;> intro hc | fail)
    · rw [hlo]; decide
    · rw [hlo, hhi]; decide
    · rw [hhi]; omega
    · omega
    · omega
    · rw [show _ = _ from hcond] at hc
      have hb : u / 2 ^ 2 % 2 = 0 := by omega
      rw [if_pos hb] at hup
      rw [← hup] at hn1
      rw [hy]
      clear hn2 hb hc hcond hlo hhi hy
      repeat' (first | refine wC ?_ | refine wK ?_ | ((with_reducible refine zk ?_); refine wL hn1 ?_) | fail)
      exact zv (n' := 0) (by omega) (za [2, 6, 7, 9, 12, 50] [] rfl rfl) (.inr (.inr (.inr ⟨rfl, rfl, rfl⟩)))
    · rw [show _ = _ from hcond] at hc
      have hb : ¬ u / 2 ^ 2 % 2 = 0 := by omega
      rw [if_neg hb] at hup
      rw [← hup] at hn2
      rw [hy]
      clear hn1 hb hc hcond hlo hhi hy
      repeat' (first | refine wC ?_ | refine wK ?_ | ((with_reducible refine zk ?_); refine wL hn2 ?_) | fail)
      exact zv (n' := 0) (by omega) (za [2, 6, 7, 9, 12, 50] [] rfl rfl) (.inr (.inr (.inr ⟨rfl, rfl, rfl⟩)))
  · have hT := qJ (⟨#[2]⟩ ++ ktL s 3 (u / 2 ^ 3)) (by rw [ByteArray.size_append, zM]; decide)
    have e3 := zM s 3 (u / 2 ^ 3)
    have z2 : (⟨#[2]⟩ : ByteArray).size = 1 := rfl
    have hu0 : u / 2 ^ 3 = 0 := by omega
    rw [hu0] at hT e3 ⊢
    rw [show sha (⟨#[2]⟩ ++ ktL s 3 0) = ktP s from rfl] at hT
    repeat' (first | refine wC ?_ | refine wK ?_ | ((with_reducible refine zJ ?_); refine zI rfl rfl rfl rfl rfl rfl ?_ ?_) | ((with_reducible refine zk ?_); refine wL hT ?_) | fail)
    all_goals try omega
    all_goals exact zx (zd rfl rfl (congrArg T.bool (decide_eq_true rfl))) (by simp)
end Go.AL
namespace Go.AL
open Go
section
open Go.RowKit
end
end Go.AL
namespace Go.AL
def zg9 (c : Nat) : Nat := c ||| 32
def hv (c : Nat) : Option Nat := if 48 ≤ c ∧ c ≤ 57 then some (c - 48) else if 97 ≤ zg9 c ∧ zg9 c ≤ 102 then some (zg9 c - 87) else none
theorem qz {α : Type} [Inhabited α] : ∀ (L : List α) (j : Nat), j < L.length → L.drop j = L.getD j default :: L.drop (j + 1)
  | [], j, h => by simp at h
  | x :: L, 0, h => by simp
  | x :: L, j + 1, h => by simpa using qz L j (by simpa using h)
end Go.AL
namespace Go.AL
open Go
structure Fr where
  n : Int
  d : Int
  deriving Inhabited, DecidableEq
def Fr.toT (f : Fr) : T := .agg [.int .i64 f.n, .int .i64 f.d]
def zhj (a b : Int) : Int := (Nat.gcd a.toNat b.toNat : Int)
def Fr.wt (f : Fr) : Bool := decide (1 ≤ f.d ∧ f.d ≤ 100 ∧ 0 ≤ f.n ∧ f.n ≤ f.d) && decide (zhj f.n f.d = 1)
def zew {α : Type} (p : α → Bool) : List α → Nat → Int
  | [], _ => -1
  | x :: l, k => if p x then (k : Int) else zew p l (k + 1)
theorem zd8 {α : Type} (p : α → Bool) : ∀ (l : List α) (k : Nat), decide (0 ≤ zew p l k) = l.any p
  | [], k => by simp [zew]
  | x :: l, k => by
    rw [zew, List.any_cons]
    cases hp : p x with
    | true => simp
    | false => simp [zd8 p l (k + 1)]
def frs (l : List Fr) : T := .sl 2 (l.map Fr.toT)
structure Th where
  n : Int
  w : List (List Fr)
  deriving Inhabited
def Th.toT (t : Th) : T := .agg [.int .i64 t.n, .sl 1 (t.w.map frs)]
def zgF : List (List Fr) → Nat
  | [] => 0
  | l :: r => l.length + zgF r
structure Th.Fit (t : Th) : Prop where
  few : zgF t.w ≤ 8
  lists : t.w.length ≤ 8
  wt : ∀ l ∈ t.w, ∀ f ∈ l, f.wt = true
  one : t.n = 0 ∨ t.w.length = 0
end Go.AL
namespace Go.AL
open Go Go.Proofs Go.RowKit
def vaT (s : ByteArray) (p c n : Int) (l : List Int) : T := .agg [.str s, .int .i64 p, .int .i64 c, .int .i64 n, .sl 1 (l.map (T.int .i64))]
def sdS (s : ByteArray) (g i : Int) : ByteArray := sha (zaX [s, xZ g, xZ i])
theorem jc (s : ByteArray) (g i : Int) : (sdS s g i).size = 32 := xm _
set_option maxHeartbeats 1000000 in
theorem kR (n : Int) : Spec Try.prog 125 [.t (.int .i64 n)] [] (.t (.str (xZ n))) [] := by
  refine wI Try.func125 ?_
  repeat' (first | refine wC ?_ | refine wK ?_ | ((with_reducible refine zN ?_); refine zw rfl rfl rfl rfl rfl rfl ?_ ?_) | fail)
  all_goals try exact jR _ _ _ _
  exact zx (zd rfl rfl rfl) (by simp)
set_option maxHeartbeats 1000000 in
theorem zcB (s : ByteArray) (g i : Int) (hs : s.size ≤ 900000) : Spec Try.prog 115 [.t (.str s), .t (.int .i64 g), .t (.int .i64 i)] [] (.t (.str (sdS s g i))) [] := by
  have h1 := kR g
  have h2 := kR i
  have hL := zdE [s, xZ g, xZ i] 900000 (by
    intro x hx
    rcases List.mem_cons.1 hx with rfl | hx
    · exact hs
    rcases List.mem_cons.1 hx with rfl | hx
    · rw [y7]; decide
    rcases List.mem_cons.1 hx with rfl | hx
    · rw [y7]; decide
    · cases hx) (by simp) (by simp)
  rw [show sha (zaX [s, xZ g, xZ i]) = sdS s g i from rfl] at hL
  generalize sdS s g i = Y at *
  generalize xZ g = A at *
  generalize xZ i = B at *
  refine wI Try.func115 ?_
  repeat' (first | refine wC ?_ | refine yT (es := [s, A, B].map T.str) rfl rfl rfl rfl rfl rfl ?_ | refine wK ?_ | ((with_reducible refine zk ?_); first | refine wL h1 ?_ | refine wL h2 ?_ | refine wL hL ?_) | fail)
  exact zx (zd rfl rfl rfl) (by simp)
set_option maxHeartbeats 1000000 in
theorem xC (n m : Int) : Spec Try.prog 85 [.t (.int .i64 n), .t (.int .i64 m)] [] (.t (.bool (decide (m ≤ n) && decide (n ≤ 8)))) [] := by
  refine wI Try.func85 ?_
  repeat' (first | refine wC ?_ | refine wK ?_ | refine xG rfl ?_ ?_ <;> intro hc | fail)
  all_goals exact zx (zd rfl rfl (congrArg T.bool (by simp [hc]))) (by simp)
def zgf (n : Int) : Bool := decide (n < 0) || decide (8 < n)
set_option maxHeartbeats 1000000 in
theorem zam (n : Int) : Spec Try.prog 105 [.t (.int .i64 n)] [] (.t (.bool (zgf n))) [] := by
  refine wI Try.func105 ?_
  repeat' (first | refine wC ?_ | refine wK ?_ | refine xG rfl ?_ ?_ <;> intro hc | fail)
  all_goals exact zx (zd rfl rfl (congrArg T.bool (by simp [zgf, hc]))) (by simp)
set_option maxHeartbeats 2000000 in
theorem jd (p : Int → Bool) (g : FuncId) [FnB Try.prog g] (l : List Int) (hf : ∀ x ∈ l, Spec Try.prog g [.t (.int .i64 x)] [] (.t (.bool (p x))) []) (hl : l.length ≤ 1000000000) : Spec Try.prog 118 [.t (.sl 1 (l.map (T.int .i64))), .t (.fn g)] [] (.t (.int .i64 (zew p l 0))) [] := by
  obtain ⟨R, hR⟩ : ∃ R, R = zew p l 0 := ⟨_, rfl⟩
  rw [← hR]
  refine wI Try.func118 ?_
  repeat' (first | refine wC ?_ | refine wK ?_ | fail)
  refine zb (za [0, 1, 7, 8] [] rfl rfl) ?_
  refine zf (fun q env st => ∃ (j : Nat), j ≤ l.length ∧ q = l.length - j ∧ zew p (l.drop j) j = R ∧ env = EnvL.get [(0, .t (.sl 1 (l.map (T.int .i64)))), (1, .t (.fn g)), (7, .t (.int .i64 (l.length : Int))), (8, .t (.int .i64 (j : Int)))] ∧ st = StO.get [])
    ?_ (n := l.length) ⟨0, by omega, rfl, hR.symm, rfl, rfl⟩
  rintro q env st ⟨j, hj, rfl, hG, rfl, rfl⟩
  have wj : IntKind.i64.wrap ((j : Int) + 1) = ((j + 1 : Nat) : Int) := by rw [zj (by omega) (by omega)]; omega
  by_cases hlt : j < l.length
  · have hcl := hf (l.getD (j : Int).toNat default) (by rw [Int.toNat_natCast, List.getD_eq_getElem?_getD, List.getElem?_eq_getElem hlt]; exact List.getElem_mem _)
    rw [qz l j hlt, zew, show l.getD j default = l.getD (j : Int).toNat default from rfl] at hG
    cases hp : p (l.getD (j : Int).toNat default) with
    | true =>
      rw [hp] at hcl hG
      rw [if_pos rfl] at hG
      repeat' (first | refine wC ?_ | (exfalso; omega) | refine wK ?_ | ((with_reducible refine ze ?_); refine zi rfl rfl rfl rfl rfl rfl ?_ ?_ ?_) | ((with_reducible refine zk ?_); refine wL hcl ?_) | refine zm rfl ?_ ?_ <;> intro hc | fail)
      all_goals try (simp only [List.length_map]; omega)
      all_goals try omega
      all_goals first | rfl | exact zx (zd rfl rfl (congrArg (T.int .i64) hG)) (by simp)
    | false =>
      rw [hp] at hcl hG
      rw [if_neg (by decide)] at hG
      repeat' (first | refine wC ?_ | (exfalso; omega) | refine wK ?_ | ((with_reducible refine ze ?_); refine zi rfl rfl rfl rfl rfl rfl ?_ ?_ ?_) | ((with_reducible refine zk ?_); refine wL hcl ?_) | refine zm rfl ?_ ?_ <;> intro hc | fail)
      all_goals try (simp only [List.length_map]; omega)
      all_goals try omega
      all_goals first | rfl | exact zv (n' := l.length - (j + 1)) (by omega) (za [0, 1, 7, 8] [] rfl rfl) ⟨j + 1, by omega, rfl, hG, by rw [wj]; rfl, rfl⟩
  · obtain rfl : j = l.length := by omega
    rw [List.drop_length, zew] at hG
    repeat' (first | refine wC ?_ | (exfalso; omega) | refine wK ?_ | refine zm rfl ?_ ?_ <;> intro hc | fail)
    exact zx (zd rfl rfl (congrArg (T.int .i64) hG)) (by simp)
set_option maxHeartbeats 2000000 in
theorem vX (p : Int → Bool) (g : FuncId) [FnB Try.prog g] (l : List Int) (hf : ∀ x ∈ l, Spec Try.prog g [.t (.int .i64 x)] [] (.t (.bool (p x))) []) (hl : l.length ≤ 1000000000) : Spec Try.prog 106 [.t (.sl 1 (l.map (T.int .i64))), .t (.fn g)] [] (.t (.bool (l.any p))) [] := by
  have hI := jd p g l hf hl
  rw [← zd8 p l 0]
  generalize zew p l 0 = R at *
  refine wI Try.func106 ?_
  repeat' (first | refine wC ?_ | refine wK ?_ | ((with_reducible refine zk ?_); refine wL hI ?_) | fail)
  exact zx (zd rfl rfl rfl) (by simp)
def zbn : Int → List Int → Int
  | a, [] => a
  | a, x :: l => zbn (if x > a then x else a) l
set_option maxHeartbeats 2000000 in
theorem zb5 (a : Int) (l : List Int) (hl : l.length ≤ 1000000000) : Spec Try.prog 88 [.t (.sl 1 ((a :: l).map (T.int .i64)))] [] (.t (.int .i64 (zbn a l))) [] := by
  obtain ⟨R, hR⟩ : ∃ R, R = zbn a l := ⟨_, rfl⟩
  rw [← hR]
  obtain ⟨w, hw⟩ : ∃ w, w = a :: l := ⟨_, rfl⟩
  have hwl : w.length = l.length + 1 := by rw [hw]; rfl
  have ha : w.getD (0 : Int).toNat default = a := by rw [hw]; rfl
  have hd : w.drop 1 = l := by rw [hw]; rfl
  rw [← hw]
  refine wI Try.func88 ?_
  repeat' (first | refine wC ?_ | (exfalso; omega) | refine wK ?_ | ((with_reducible refine ze ?_); refine zi rfl rfl rfl rfl rfl rfl ?_ ?_ ?_) | refine zm rfl ?_ ?_ <;> intro hc | fail)
  · omega
  · omega
  rw [ha]
  refine zb (za [0, 3, 4] [] rfl rfl) ?_
  refine zf (fun q env st => ∃ (j : Nat) (c : Int), 1 ≤ j ∧ j ≤ w.length ∧ q = w.length - j ∧ zbn c (w.drop j) = R ∧ env = EnvL.get [(0, .t (.sl 1 (w.map (T.int .i64)))), (3, .t (.int .i64 c)), (4, .t (.int .i64 (j : Int)))] ∧ st = StO.get [])
    ?_ (n := w.length - 1) ⟨1, a, by omega, by omega, rfl, by rw [hd, hR], rfl, rfl⟩
  rintro q env st ⟨j, c, hj1, hj, rfl, hG, rfl, rfl⟩
  have wj : IntKind.i64.wrap ((j : Int) + 1) = ((j + 1 : Nat) : Int) := by rw [zj (by omega) (by omega)]; omega
  clear ha hd hw
  by_cases hlt : j < w.length
  · rw [qz w j hlt, zbn, show w.getD j default = w.getD (j : Int).toNat default from rfl] at hG
    repeat' (first | refine wC ?_ | (exfalso; omega) | refine wK ?_ | ((with_reducible refine ze ?_); refine zi rfl rfl rfl rfl rfl rfl ?_ ?_ ?_) | refine zm rfl ?_ ?_ <;> intro hc | fail)
    all_goals try omega
    all_goals exact zv (n' := w.length - (j + 1)) (by omega) (za [0, 3, 4] [] rfl rfl) ⟨j + 1, _, by omega, by omega, rfl, hG, by rw [wj]; rfl, rfl⟩
  · obtain rfl : j = w.length := by omega
    rw [List.drop_length, zbn] at hG
    repeat' (first | refine wC ?_ | (exfalso; omega) | refine wK ?_ | refine zm rfl ?_ ?_ <;> intro hc | fail)
    all_goals exact zx (zd rfl rfl (congrArg (T.int .i64) hG)) (by simp)
set_option maxHeartbeats 2000000 in
theorem zcZ (l : List Int) (h0 : 0 < l.length) (hl : l.length ≤ 1000000) : Spec Try.prog 104 [.t (.sl 1 (l.map (T.int .i64)))] [] (.row (.res 0)) [(.res 0, .slt 3 1 (l.map (T.int .i64)))] := by
  obtain ⟨x, t, rfl⟩ : ∃ x t, l = x :: t := by
    cases l with
    | nil => simp at h0
    | cons x t => exact ⟨x, t, rfl⟩
  refine wIG Try.func104 ?_
  repeat' (first | refine wC ?_ | refine wK ?_ | ((with_reducible refine zQ ?_); refine zas rfl rfl rfl rfl rfl rfl rfl rfl rfl ?_ ?_ ?_) | fail)
  · simp only [List.length_map, List.length_nil]; omega
  · simp only [List.length_map, List.length_nil]; omega
  refine zV ((za [2] [.loc 7] rfl rfl).trans (zo (.loc 7) (.res 0) rfl rfl rfl rfl)) ?_
  exact yI (zx (xk rfl (AVLE.refl _)) (zC ⟨rfl, trivial⟩))
def zgQ (s : ByteArray) (p c n : Int) (l : List Int) : Bool := decide ((s.size : Int) = 32) && decide (0 ≤ p) && decide (p < 65536) && (decide (1 ≤ c) && decide (c ≤ 8)) && (decide (0 ≤ n) && decide (n ≤ 8)) && decide ((l.length : Int) = c) && !l.any zgf
set_option maxHeartbeats 4000000 in
theorem wS (s : ByteArray) (p c n : Int) (l : List Int) (hl : l.length ≤ 1000000) : Spec Try.prog 87 [.t (vaT s p c n l)] [] (.t (.bool (zgQ s p c n l))) [] := by
  have hC := vX zgf 105 l (fun x _ => zam x) (by omega)
  have hk1 := xC c 1
  have hk2 := xC n 0
  obtain ⟨R, hR⟩ : ∃ R, R = zgQ s p c n l := ⟨_, rfl⟩
  rw [← hR]
  unfold zgQ at hR
  generalize l.any zgf = A at *
  generalize (decide (1 ≤ c) && decide (c ≤ 8)) = B1 at *
  generalize (decide (0 ≤ n) && decide (n ≤ 8)) = B2 at *
  unfold vaT
  refine wI Try.func87 ?_
  repeat' (first | refine wC ?_ | refine wK ?_ | ((with_reducible refine zk ?_); first | refine wL hC ?_ | refine wL hk1 ?_ | refine wL hk2 ?_) | refine xG rfl ?_ ?_ <;> intro hc | refine zds rfl ?_ ?_ <;> intro hc | fail)
  all_goals exact zx (zd rfl rfl (congrArg T.bool (by rw [hR]; simp [*]))) (by simp)
set_option maxHeartbeats 2000000 in
theorem zdO (s : ByteArray) (c n : Int) (hs : s.size = 32) (h1 : 1 ≤ c) (h2 : c ≤ 8) (h3 : 0 ≤ n) (h4 : n ≤ 8) : Spec Try.prog 55 [.t (.str s), .t (.int .i64 c), .t (.int .i64 n)] [] (.tup [.t (vaT s 0 c n (List.replicate c.toNat 0)), .t (.int .i64 0)]) [] := by
  have hk1 := xC c 1
  have hk2 := xC n 0
  rw [show (decide (1 ≤ c) && decide (c ≤ 8)) = true from by simp [h1, h2]] at hk1
  rw [show (decide (0 ≤ n) && decide (n ≤ 8)) = true from by simp [h3, h4]] at hk2
  rw [show vaT s 0 c n (List.replicate c.toNat 0) = .agg [.str s, .int .i64 0, .int .i64 c, .int .i64 n, .sl 1 (List.replicate c.toNat (T.int .i64 0))] from by unfold vaT; rw [List.map_replicate]]
  refine wIG Try.func55 ?_
  repeat' (first | refine wC ?_ | (exfalso; omega) | refine jr (r := .agg [.t (.str s), .t (.int .i64 0), .t (.int .i64 c), .t (.int .i64 n), .row (.loc 27)]) rfl rfl rfl rfl rfl rfl rfl ?_ | refine wK ?_ | ((with_reducible refine yJ ?_); refine yB (zT := .int _ _) rfl rfl rfl rfl rfl rfl rfl rfl rfl ?_ ?_ ?_ ?_ ?_) | ((with_reducible refine zk ?_); first | refine wL hk1 ?_ | refine wL hk2 ?_) | refine yH rfl ?_ ?_ <;> intro hc | fail)
  · omega
  · omega
  · omega
  · omega
  refine zV (zz (id := .loc 27) rfl rfl rfl) ?_
  refine yI (zx ?_ (by simp)); refine w5 rfl rfl rfl inferInstance rfl inferInstance rfl ?_ ?_; exact TLe.av wT; exact AVLE.refl _
set_option maxHeartbeats 2000000 in
theorem ql (s : ByteArray) (p c n : Int) (l : List Int) (h0 : 0 < l.length) (hl : l.length ≤ 1000000) : Spec Try.prog 86 [.t (vaT s p c n l)] [] (.agg [.t (.str s), .t (.int .i64 p), .t (.int .i64 c), .t (.int .i64 n), .row (.res 0)]) [(.res 0, .slt 3 1 (l.map (T.int .i64)))] := by
  have hC := zcZ l h0 hl
  refine wIG Try.func86 ?_
  repeat' (first | refine wC ?_ | refine wK ?_ | ((with_reducible refine zk ?_); refine wN (.row (.loc 900)) [(.res 0, .loc 900)] hC ?_) | fail)
  refine zV ((za [2] [.loc 2, .loc 900] rfl rfl).trans (zo (.loc 900) (.res 0) rfl rfl rfl rfl)) ?_
  refine yI (zx ?_ (zC ⟨rfl, trivial⟩)); exact qT rfl rfl rfl inferInstance rfl inferInstance rfl (AVLE.refl _)
def sdL (s : ByteArray) (g : Int) (k : Nat) : List ByteArray := (List.range k).map (fun (i : Nat) => sdS s g (i : Int))
theorem zdB (s : ByteArray) (g : Int) (k : Nat) : (sdL s g k).length = k := by simp [sdL]
theorem ze9 (s : ByteArray) (g : Int) (k : Nat) : sdL s g (k + 1) = sdL s g k ++ [sdS s g (k : Int)] := by simp [sdL, List.range_succ]
set_option maxHeartbeats 4000000 in
theorem kr (s : ByteArray) (p c n : Int) (l : List Int) (g : Int) (k : Nat) (hs : s.size ≤ 900000) (hk : k ≤ 8) : Spec Try.prog 100 [.t (vaT s p c n l), .t (.int .i64 g), .t (.int .i64 (k : Int))] [] (.row (.res 0)) [(.res 0, .slt 9 1 ((sdL s g k).map .str))] := by
  have hm0 : (if (0 : Int) > (k : Int) then (0 : Int) else (k : Int)) = (k : Int) := if_neg (by omega)
  have hm1 : (if (8 : Int) < (k : Int) then (8 : Int) else (k : Int)) = (k : Int) := if_neg (by omega)
  refine wIG Try.func100 ?_
  repeat' (first | refine wC ?_ | refine wK ?_ | fail)
  rw [hm0, hm1]
  clear hm0 hm1
  refine zb (xv 7 (.loc 900) 9 1 rfl rfl rfl) ?_
  refine zb (za [1, 3, 7, 11, 12] [.loc 3, .loc 900] rfl rfl) ?_
  refine zf (fun q env st => ∃ (j : Nat), j ≤ k ∧ q = k - j ∧ env = EnvL.get [(1, .t (.int .i64 g)), (3, .ref (.loc 3) 0 0 0), (7, .row (.loc 900)), (11, .t (.int .i64 (k : Int))), (12, .t (.int .i64 (j : Int)))] ∧ st = StO.get [(.loc 3, some (.var 66 [.t (.str s), .t (.int .i64 p), .t (.int .i64 c), .t (.int .i64 n), .t (.sl 1 (l.map (T.int .i64)))])), (.loc 900, some (.slt 9 1 ((sdL s g j).map .str)))])
    ?_ (n := k) ⟨0, by omega, rfl, rfl, rfl⟩
  rintro q env st ⟨j, hj, rfl, rfl, rfl⟩
  have wj : IntKind.i64.wrap ((j : Int) + 1) = ((j + 1 : Nat) : Int) := by rw [zj (by omega) (by omega)]; omega
  by_cases hlt : j < k
  · have hS := zcB s g (j : Int) hs
    have hsuc := ze9 s g j
    have hln := zdB s g j
    generalize sdS s g (j : Int) = Y at *
    repeat' (first | refine wC ?_ | (exfalso; omega) | refine wK ?_ | ((with_reducible refine zQ ?_); refine zq rfl rfl rfl rfl rfl rfl rfl rfl rfl rfl ?_ ?_ ?_) | ((with_reducible refine zk ?_); refine wL hS ?_) | refine zm rfl ?_ ?_ <;> intro hc | fail)
    · simp only [List.length_map, List.length_cons, List.length_nil]; omega
    · simp only [List.length_map, List.length_cons, List.length_nil]; omega
    · exact zv (n' := k - (j + 1)) (by omega) ((za [1, 3, 7, 11, 12] [.loc 3, .loc 22] rfl rfl).trans (zo (.loc 22) (.loc 900) rfl rfl rfl rfl)) ⟨j + 1, by omega, rfl, by rw [wj]; rfl, by rw [hsuc, List.map_append, List.map_singleton]; rfl⟩
  · obtain rfl : j = k := by omega
    repeat' (first | refine wC ?_ | (exfalso; omega) | refine wK ?_ | refine zm rfl ?_ ?_ <;> intro hc | fail)
    refine zV ((za [6] [.loc 900] rfl rfl).trans (zo (.loc 900) (.res 0) rfl rfl rfl rfl)) ?_
    exact yI (zx (xk rfl (AVLE.refl _)) (zC ⟨rfl, trivial⟩))
set_option maxHeartbeats 4000000 in
theorem zbw (s : ByteArray) (p n : Int) (l : List Int) (k : Nat) (hs : s.size ≤ 900000) (hk : k ≤ 8) : Spec Try.prog 89 [.t (vaT s p (k : Int) n l)] [] (.row (.res 0)) [(.res 0, .slt 9 1 ((sdL s p k).map .str))] := by
  have hS := kr s p (k : Int) n l p k hs hk
  refine wIG Try.func89 ?_
  repeat' (first | refine wC ?_ | refine wK ?_ | ((with_reducible refine zk ?_); refine wN (.row (.loc 900)) [(.res 0, .loc 900)] hS ?_) | fail)
  refine zV ((za [2] [.loc 900] rfl rfl).trans (zo (.loc 900) (.res 0) rfl rfl rfl rfl)) ?_
  exact yI (zx (xk rfl (AVLE.refl _)) (zC ⟨rfl, trivial⟩))
def ke {α : Type} (f h : Nat → α) (k j : Nat) : List α := (List.range k).map (fun i => if i < j then f i else h i)
theorem kX {α : Type} (f h : Nat → α) (k j : Nat) : (ke f h k j).length = k := by simp [ke]
theorem zdI {α : Type} [Inhabited α] (f h : Nat → α) (k j : Nat) (hj : j < k) : (ke f h k j).getD j default = h j := by
  unfold ke
  rw [List.getD_eq_getElem?_getD, List.getElem?_map, List.getElem?_range hj]
  simp
theorem zfn {α : Type} (f h : Nat → α) (k : Nat) : ke f h k 0 = (List.range k).map h := by
  unfold ke; apply List.map_congr_left; intro i _; simp
theorem zfm {α : Type} (f h : Nat → α) (k : Nat) : ke f h k k = (List.range k).map f := by
  unfold ke; apply List.map_congr_left; intro i hi; simp [List.mem_range.1 hi]
theorem zcj {α : Type} (f h : Nat → α) (k j : Nat) : (ke f h k j).set j (f j) = ke f h k (j + 1) := by
  apply List.ext_getElem?
  intro i
  unfold ke
  rw [List.getElem?_set]
  by_cases e : j = i
  · subst e
    rw [if_pos rfl]
    by_cases hj : j < k
    · rw [if_pos (by simpa using hj), List.getElem?_map, List.getElem?_range hj]; simp
    · rw [if_neg (by simpa using hj), List.getElem?_map, List.getElem?_eq_none (by simpa using hj)]; rfl
  · rw [if_neg e, List.getElem?_map, List.getElem?_map]
    by_cases hk : i < k
    · rw [List.getElem?_range hk]
      simp only [Option.map_some]
      congr 1
      by_cases h1 : i < j
      · rw [if_pos h1, if_pos (by omega)]
      · rw [if_neg h1, if_neg (by omega)]
    · rw [List.getElem?_eq_none (by simpa using hk)]; rfl
def kyS (s : ByteArray) (g : Int) (i : Nat) : ByteArray := kF 2 (ktP (sdS s g (i : Int)))
set_option maxHeartbeats 4000000 in
theorem zdF (s : ByteArray) (p n : Int) (l : List Int) (k : Nat) (hs : s.size ≤ 900000) (hk : k ≤ 8) : Spec Try.prog 83 [.t (vaT s p (k : Int) n l)] [] (.t (.sl 1 (((List.range k).map (kyS s p)).map .str))) [] := by
  have hS := kr s p (k : Int) n l p k hs hk
  rw [show sdL s p k = (List.range k).map (fun (i : Nat) => sdS s p (i : Int)) from rfl, ← zfn (kyS s p)] at hS
  rw [← zfm (kyS s p) (fun (i : Nat) => sdS s p (i : Int))]
  refine wIG Try.func83 ?_
  repeat' (first | refine wC ?_ | refine wK ?_ | ((with_reducible refine zk ?_); refine wN (.row (.loc 900)) [(.res 0, .loc 900)] hS ?_) | fail)
  have hln0 := kX (kyS s p) (fun (i : Nat) => sdS s p (i : Int)) k 0
  rw [hln0]
  refine zb (za [3, 12, 13, 14] [.loc 900] rfl rfl) ?_
  refine zf (fun q env st => ∃ (j : Nat), j ≤ k ∧ q = k - j ∧ env = EnvL.get [(3, .row (.loc 900)), (12, .row (.loc 900)), (13, .t (.int .i64 (k : Int))), (14, .t (.int .i64 (j : Int)))] ∧ st = StO.get [(.loc 900, some (.slt 9 1 ((ke (kyS s p) (fun (i : Nat) => sdS s p (i : Int)) k j).map .str)))])
    ?_ (n := k) ⟨0, by omega, rfl, rfl, rfl⟩
  clear hln0
  rintro q env st ⟨j, hj, rfl, rfl, rfl⟩
  have wj : IntKind.i64.wrap ((j : Int) + 1) = ((j + 1 : Nat) : Int) := by rw [zj (by omega) (by omega)]; omega
  by_cases hlt : j < k
  · have hK := zcP (sdS s p (j : Int)) (by rw [jc]; decide)
    rw [show kF 2 (ktP (sdS s p (j : Int))) = kyS s p j from rfl] at hK
    have hat := zdI (kyS s p) (fun (i : Nat) => sdS s p (i : Int)) k j hlt
    have hset := zcj (kyS s p) (fun (i : Nat) => sdS s p (i : Int)) k j
    have hln := kX (kyS s p) (fun (i : Nat) => sdS s p (i : Int)) k j
    rw [← hat, ← Int.toNat_natCast j] at hK
    rw [Int.toNat_natCast j] at hK
    clear hat
    generalize ke (kyS s p) (fun (i : Nat) => sdS s p (i : Int)) k j = M at *
    generalize kyS s p j = Y at *
    rw [show M.getD j default = M.getD (j : Int).toNat default from rfl] at hK
    repeat' (first | refine wC ?_ | (exfalso; omega) | refine wK ?_ | ((with_reducible refine xR ?_); refine vK rfl rfl rfl rfl rfl rfl rfl rfl ?_ ?_) | ((with_reducible refine yS ?_); refine xp rfl rfl rfl rfl rfl rfl ?_ ?_ ?_) | ((with_reducible refine ze ?_); refine yx rfl rfl rfl rfl rfl rfl rfl ?_ ?_ ?_) | ((with_reducible refine zk ?_); refine wL hK ?_) | refine zm rfl ?_ ?_ <;> intro hc | fail)
    all_goals try (simp only [List.length_map]; omega)
    all_goals try omega
    all_goals first | rfl | exact zv (n' := k - (j + 1)) (by omega) (za [3, 12, 13, 14] [.loc 900] rfl rfl) ⟨j + 1, by omega, rfl, by rw [wj]; rfl, by rw [← hset, List.map_set]; rfl⟩
  · obtain rfl : j = k := by omega
    repeat' (first | refine wC ?_ | (exfalso; omega) | refine wK ?_ | refine zm rfl ?_ ?_ <;> intro hc | fail)
    refine zV (zz (id := .loc 900) rfl rfl rfl) ?_
    exact yI (zx (xk rfl (AVLE.refl _)) (by simp))
end Go.AL
