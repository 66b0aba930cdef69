/- The end of a read that went well: what the program sends. -/
/- The messages of a read's data: plain facts. -/
/- What is left of the messages, one taken behind the other: plain facts. -/
import Derived.Test.YthlpiipobcomfaaGreatDoorQrSend
set_option linter.all false
set_option linter.unusedSectionVars false
set_option linter.unusedVariables false
set_option linter.unusedSimpArgs false
namespace Go.Proofs.YthlpiipobcomfaaGreatDoor
open Go Go.Ab Go.Proofs Go.RowKit Go.Lib
set_option maxRecDepth 1000000
def endHead : ByteArray := ⟨#[0, 0, 0, 0, 0, 0, 0, 0, 2, 0, 1, 0, 9, 0, 0, 0]⟩
def endM : ByteArray := ⟨#[5, 0, 24, 0, 24, 0, 0, 0, 0, 0, 0, 0, 0, 0, 0, 0, 2, 0, 1, 0, 9, 0, 0, 0]⟩
theorem run113 : (letI : Kn := knNone; kF code nats 3000 113 [.agg #[.int .u32 0, .int .u32 0, .int .i64 2, .int .i64 1, .int .i64 9, .int .i64 0]] (otabH tabs) (fun r _ => eqx 3 r (.tuple #[.string endHead, .int .i64 0]))) = true := by kernel_rfl
theorem run92e : (letI : Kn := knNone; kF code nats 3000 92 [.agg #[.int .i64 5, .int .i64 0, .string endHead, .string ⟨#[]⟩], .bool false, .bool false] (otabH tabs) (fun r _ => eqx 3 r (.tuple #[.string endM, .int .i64 0]))) = true := by kernel_rfl
theorem flT2 (s : ByteArray) : Flat (.tuple #[.string s, .int .i64 0]) := .tuple _ (by intro v hv; simp at hv; rcases hv with rfl | rfl <;> constructor)
theorem flat_lrel [Unk] (σ : Ab.Sg) : ∀ {l : List Value}, (∀ v ∈ l, Flat v) → LRel σ l l
  | [], _ => .nil
  | v :: l, h => .cons (Flat.vrel (h v (.head _))) (flat_lrel σ fun u hu => h u (.tail _ hu))
theorem end113 (w : World) (hL : Laid w) : Calls Tryz.prog 113 #[.agg #[.int .u32 0, .int .u32 0, .int .i64 2, .int .i64 1, .int .i64 9, .int .i64 0]] w fun e w' => e = .returned (.tuple #[.string endHead, .int .i64 0]) ∧ Below w.heap.size w w' :=
  told_of (flT2 _) run113 (fun σ => @flat_lrel (bitsI 0) σ _ (by intro v hv; simp at hv; subst hv; exact .agg _ (by intro v hv; simp at hv; rcases hv with rfl | rfl | rfl | rfl | rfl | rfl <;> constructor))) hL
theorem put92e (w : World) (hL : Laid w) : Calls Tryz.prog 92 #[.agg #[.int .i64 5, .int .i64 0, .string endHead, .string ⟨#[]⟩], .bool false, .bool false] w fun e w' => e = .returned (.tuple #[.string endM, .int .i64 0]) ∧ Below w.heap.size w w' :=
  told_of (flT2 _) run92e (fun σ => @flat_lrel (bitsI 0) σ _ (by intro v hv; simp at hv; rcases hv with rfl | rfl <;> first | exact .bool _ | exact .agg _ (by intro v hv; simp at hv; rcases hv with rfl | rfl | rfl | rfl <;> constructor))) hL
set_option maxHeartbeats 4000000 in
theorem end93 {W x : World} {bq oq : Nat} {v : Value} {xs : List Value} (hL : Laid W) (hQ : QW W bq oq v xs x) (hxs : xs.length ≤ 100000)
    (h4 : W.cell? ⟨bq, oq + 4, none⟩ = some (.bool false)) (h5 : W.cell? ⟨bq, oq + 5, none⟩ = some (.bool false)) (h7 : W.cell? ⟨bq, oq + 7, none⟩ = some (.int .i64 1)) (h9 : W.cell? ⟨bq, oq + 9, none⟩ = some (.int .i64 2)) (hf : W.frozen? ⟨bq, oq + 2, none⟩ = false) :
    Calls Tryz.prog 93 #[.pointer (some ⟨bq, oq, none⟩), .agg #[.int .u32 0, .int .u32 0, .int .i64 0, .int .i64 0, .int .i64 9, .int .i64 0]] x fun e y => e = .returned (.tuple #[]) ∧ ∃ v', QW W bq oq v' (xs ++ strCells endM) y := by
  have q7 : ∀ o, (x.alloc o).cell? ⟨bq, oq + 7, none⟩ = some (.int .i64 1) := fun o => by
    rw [World.cell?_alloc_some _ _ _ (by rw [hQ.cell _ (by omega), h7]; rfl), hQ.cell _ (by omega), h7]
  have q9 : ∀ o, (x.alloc o).cell? ⟨bq, oq + 9, none⟩ = some (.int .i64 2) := fun o => by
    rw [World.cell?_alloc_some _ _ _ (by rw [hQ.cell _ (by omega), h9]; rfl), hQ.cell _ (by omega), h9]
  have hQ1 := Lib.hid hQ
  have hxs1 := Lib.hid hxs
  have hq4 := Lib.hid h4
  have hq5 := Lib.hid h5
  have hqf := Lib.hid hf
  clear hQ h4 h5 h7 h9 hf hxs
  go_enter Tryz.func93, Tryz.ntmps93
  go_wp2
  have hba : bits .and .i64 2 65535 = 2 := by decide
  go_region
  go_upto_region 3 with (first | (go_at_call 113; refine (end113 _ ?_).mono ?_; rotate_left; rintro e w' ⟨rfl, hb⟩))
  case refine_1 => exact ((hQ1.out.laid hL).alloc _).drew
  have hy := Lib.hid (((hQ1.out.below ((Below.refl _ _).alloc (Nat.le_refl _) _)).below ((Below.refl _ _).drew)).below hb)
  clear hb q7 q9
  go_wp2_with (first | (go_at_call 65; refine (send65 5 0 endHead ⟨#[]⟩ endM (by decide) put92e hL hy.out hxs1.out hq4.out hq5.out hqf.out).mono ?_; rintro e y ⟨rfl, v', hQ'⟩))
  go_end0
  exact ⟨rfl, v', hQ'⟩
set_option maxHeartbeats 4000000 in
theorem ended66 {W x : World} {bq oq : Nat} {v : Value} {xs : List Value} (hL : Laid W) (hQ : QW W bq oq v xs x) (hxs : xs.length ≤ 100000)
    (h4 : W.cell? ⟨bq, oq + 4, none⟩ = some (.bool false)) (h5 : W.cell? ⟨bq, oq + 5, none⟩ = some (.bool false)) (h7 : W.cell? ⟨bq, oq + 7, none⟩ = some (.int .i64 1)) (h9 : W.cell? ⟨bq, oq + 9, none⟩ = some (.int .i64 2)) (hf : W.frozen? ⟨bq, oq + 2, none⟩ = false) :
    Calls Tryz.prog 66 #[.pointer (some ⟨bq, oq, none⟩), .int .i64 9, .int .i64 0] x fun e y => e = .returned (.tuple #[]) ∧ ∃ v', QW W bq oq v' (xs ++ strCells endM) y := by
  have hq := Lib.hid (end93 hL hQ hxs h4 h5 h7 h9 hf)
  clear hQ h4 h5 h7 h9 hf hxs
  go_enter Tryz.func66, Tryz.ntmps66
  go_wp2_with (first | (go_at_call 93; refine hq.out.mono ?_; rintro e y ⟨rfl, v', hQ'⟩))
  go_end0
  exact ⟨rfl, v', hQ'⟩
end Go.Proofs.YthlpiipobcomfaaGreatDoor
namespace Go.Proofs.YthlpiipobcomfaaGreatDoor
open Go Go.Proofs Go.RowKit Go.Lib
/-- A message of data: from a on, n bytes. -/
def msgAt (data : ByteArray) (a n : Nat) : ByteArray := hdr 7 (if a + n = data.size then 4 else 0) n ++ head16 a n ++ data.extract a (a + n)
/-- The first k messages. -/
def msgs (data : ByteArray) : Nat → ByteArray
  | 0 => ⟨#[]⟩
  | k + 1 => msgs data k ++ msgAt data (8192 * k) (min (data.size - 8192 * k) 8192)
theorem head16_size (a n : Nat) : (head16 a n).size = 16 := by simp [head16, le4, size_ba]
theorem hdr_size (ty fl n : Nat) : (hdr ty fl n).size = 8 := by simp [hdr, le4, size_ba]
theorem chunk_size {data : ByteArray} {a n : Nat} (h : a + n ≤ data.size) : (data.extract a (a + n)).size = n := by
  rw [ByteArray.size_extract]; omega
theorem msgAt_size {data : ByteArray} {a n : Nat} (h : a + n ≤ data.size) : (msgAt data a n).size = 24 + n := by
  unfold msgAt
  rw [ByteArray.size_append, ByteArray.size_append, head16_size, hdr_size, chunk_size h]
theorem msgs_size (data : ByteArray) : ∀ k, (k = 0 ∨ 8192 * (k - 1) < data.size) → (msgs data k).size ≤ 8216 * k
  | 0, _ => Nat.le_refl _
  | k + 1, h => by
    have h : 8192 * k < data.size := by rcases h with h | h <;> simp at h ⊢; omega
    have ih := msgs_size data k (by rcases k with _ | k; exact .inl rfl; exact .inr (by simp; omega))
    show (msgs data k ++ msgAt data (8192 * k) (min (data.size - 8192 * k) 8192)).size ≤ _
    rw [ByteArray.size_append, msgAt_size (by omega)]
    omega
theorem strCells_append (a b : ByteArray) : strCells (a ++ b) = strCells a ++ strCells b := by
  unfold strCells
  rw [ByteArray.data_append]
  simp
theorem msg_last {data : ByteArray} {a n : Nat} (h : a + n = data.size) : msgAt data a n = hdr 7 4 n ++ head16 a n ++ data.extract a (a + n) := by
  unfold msgAt; rw [if_pos h]
theorem msg_mid {data : ByteArray} {a n : Nat} (h : a + n ≠ data.size) : msgAt data a n = hdr 7 0 n ++ head16 a n ++ data.extract a (a + n) := by
  unfold msgAt; rw [if_neg h]
theorem put_last {data : ByteArray} {a n : Nat} (h : a + n = data.size) (h1 : 1 ≤ n) (h2 : n ≤ 8192) (y : World) (hL : Laid y) : Calls Tryz.prog 92 #[.agg #[.int .i64 7, .int .i64 4, .string (head16 a n), .string (data.extract a (a + n))], .bool false, .bool false] y fun e z => e = .returned (.tuple #[.string (msgAt data a n), .int .i64 0]) ∧ Below y.heap.size y z := by
  have hc := chunk_size (data := data) (a := a) (n := n) (by omega)
  have := put92_4 (head16 a n) (data.extract a (a + n)) (head16_size _ _) (by omega) (by omega) y hL
  rw [hc] at this
  rw [msg_last h]
  exact this
theorem put_mid {data : ByteArray} {a n : Nat} (h : a + n < data.size) (h1 : 1 ≤ n) (h2 : n ≤ 8192) (y : World) (hL : Laid y) : Calls Tryz.prog 92 #[.agg #[.int .i64 7, .int .i64 0, .string (head16 a n), .string (data.extract a (a + n))], .bool false, .bool false] y fun e z => e = .returned (.tuple #[.string (msgAt data a n), .int .i64 0]) ∧ Below y.heap.size y z := by
  have hc := chunk_size (data := data) (a := a) (n := n) (by omega)
  have := put92_0 (head16 a n) (data.extract a (a + n)) (head16_size _ _) (by omega) (by omega) y hL
  rw [hc] at this
  rw [msg_mid (by omega)]
  exact this
theorem msgs_next {data : ByteArray} {k a n : Nat} (ha : 8192 * k = a) (hn : n = min (data.size - a) 8192) : strCells (msgs data k) ++ strCells (msgAt data a n) = strCells (msgs data (k + 1)) := by
  rw [← strCells_append]
  show _ = strCells (msgs data k ++ msgAt data (8192 * k) (min (data.size - 8192 * k) 8192))
  rw [ha, ← hn]
theorem at_next {data : ByteArray} {k a n : Nat} (ha : 8192 * k = a) (hn : n = min (data.size - a) 8192) (hl : a < data.size) : ((a : Int) + (n : Int)) = ((min (8192 * (k + 1)) data.size : Nat) : Int) := by omega
/-- How many messages. -/
def nMsgs (data : ByteArray) : Nat := (data.size + 8191) / 8192
theorem nMsgs_of {data : ByteArray} {k : Nat} (h : k = 0 ∨ 8192 * (k - 1) < data.size) (h2 : data.size ≤ 8192 * k) : k = nMsgs data := by
  unfold nMsgs; omega
theorem head_eq (a n : Nat) (ha : a < 65536) (hn : n < 65536) : (⟨⟨leB 2 9⟩⟩ : ByteArray) ++ ⟨⟨leB 2 0⟩⟩ ++ ⟨⟨leB 4 a⟩⟩ ++ ⟨⟨leB 4 n⟩⟩ ++ ⟨⟨[0, 0, 0, 0]⟩⟩ = head16 a n := by
  rw [le4_eq _ ha, le4_eq _ hn]
  apply ByteArray.ext
  simp [ByteArray.data_append, head16, leB]
end Go.Proofs.YthlpiipobcomfaaGreatDoor
namespace Go.Proofs.YthlpiipobcomfaaGreatDoor
open Go Go.Proofs Go.RowKit Go.Lib
def nAt (data : ByteArray) (k : Nat) : Nat := min (data.size - 8192 * k) 8192
/-- The last r messages, and the end. -/
def tl (data : ByteArray) : Nat → ByteArray
  | 0 => endM
  | r + 1 => msgAt data (8192 * (nMsgs data - (r + 1))) (nAt data (nMsgs data - (r + 1))) ++ tl data r
/-- What is left behind j messages. -/
def rest (data : ByteArray) (j : Nat) : ByteArray := if j ≤ nMsgs data then tl data (nMsgs data - j) else ⟨#[]⟩
theorem rest_step {data : ByteArray} {j : Nat} (h : j < nMsgs data) : rest data j = msgAt data (8192 * j) (nAt data j) ++ rest data (j + 1) := by
  unfold rest
  rw [if_pos (by omega), if_pos (by omega), show nMsgs data - j = (nMsgs data - (j + 1)) + 1 by omega]
  show msgAt data (8192 * (nMsgs data - (nMsgs data - (j + 1) + 1))) (nAt data (nMsgs data - (nMsgs data - (j + 1) + 1))) ++ _ = _
  rw [show nMsgs data - (nMsgs data - (j + 1) + 1) = j by omega]
theorem rest_last (data : ByteArray) : rest data (nMsgs data) = endM := by
  unfold rest
  rw [if_pos (Nat.le_refl _), Nat.sub_self]
  rfl
theorem rest_end (data : ByteArray) : rest data (nMsgs data + 1) = ⟨#[]⟩ := by
  unfold rest
  rw [if_neg (by omega)]
theorem app_assoc (a b c : ByteArray) : a ++ b ++ c = a ++ (b ++ c) := by
  apply ByteArray.ext
  simp [ByteArray.data_append]
theorem msgs_rest (data : ByteArray) : ∀ j, j ≤ nMsgs data → msgs data j ++ rest data j = rest data 0
  | 0, _ => by
    show (⟨#[]⟩ : ByteArray) ++ _ = _
    exact empty_app _
  | j + 1, h => by
    rw [← msgs_rest data j (by omega), rest_step (by omega : j < nMsgs data)]
    show msgs data j ++ msgAt data (8192 * j) (nAt data j) ++ _ = _
    rw [app_assoc]
theorem rest_all (data : ByteArray) : msgs data (nMsgs data) ++ endM = rest data 0 := by
  rw [← rest_last data]; exact msgs_rest data _ (Nat.le_refl _)
theorem ext_left (a b : ByteArray) (i j : Nat) (h : j ≤ a.size) : (a ++ b).extract i j = a.extract i j := by
  apply ByteArray.ext
  rw [ByteArray.data_extract, ByteArray.data_extract, ByteArray.data_append, Array.extract_append]
  have : (b.data.extract (i - a.data.size) (j - a.data.size)) = #[] := by
    apply Array.extract_empty_of_stop_le_start
    show j - a.size ≤ _
    omega
  rw [this]; simp
theorem ext_right (a b : ByteArray) : (a ++ b).extract a.size (a ++ b).size = b := by
  apply ByteArray.ext
  rw [ByteArray.data_extract, ByteArray.data_append, Array.extract_append]
  rw [ByteArray.size_append]
  have e1 : a.data.extract a.size (a.size + b.size) = #[] := by
    apply Array.extract_empty_of_size_le_start
    exact Nat.le_refl _
  rw [e1]
  show #[] ++ b.data.extract (a.size - a.data.size) (a.size + b.size - a.data.size) = _
  have e2 : a.data.size = a.size := rfl
  rw [e2, Nat.sub_self, Nat.add_sub_cancel_left]
  show #[] ++ b.data.extract 0 b.data.size = b.data
  simp
theorem ext_mid (a b : ByteArray) (j : Nat) (_h : j ≤ b.size) : (a ++ b).extract a.size (a.size + j) = b.extract 0 j := by
  apply ByteArray.ext
  rw [ByteArray.data_extract, ByteArray.data_extract, ByteArray.data_append, Array.extract_append]
  have e1 : a.data.extract a.size (a.size + j) = #[] := by
    apply Array.extract_empty_of_size_le_start
    exact Nat.le_refl _
  have e2 : a.data.size = a.size := rfl
  rw [e1, e2, Nat.sub_self, Nat.add_sub_cancel_left]
  simp
theorem ext_all (a : ByteArray) : a.extract 0 a.size = a := by
  apply ByteArray.ext
  rw [ByteArray.data_extract]
  show a.data.extract 0 a.data.size = a.data
  simp
section
variable {data : ByteArray} {a n : Nat} (h : a + n ≤ data.size) (r : ByteArray)
include h
theorem got_hdr : (msgAt data a n ++ r).extract 0 8 = hdr 7 (if a + n = data.size then 4 else 0) n := by
  rw [ext_left _ _ _ _ (by rw [msgAt_size h]; omega)]
  unfold msgAt
  rw [app_assoc, ext_left _ _ _ _ (by rw [hdr_size]; omega)]
  have := ext_all (hdr 7 (if a + n = data.size then 4 else 0) n)
  rw [hdr_size] at this
  exact this
theorem got_head : (msgAt data a n ++ r).extract 8 24 = head16 a n := by
  rw [ext_left _ _ _ _ (by rw [msgAt_size h]; omega)]
  unfold msgAt
  rw [app_assoc]
  have := ext_mid (hdr 7 (if a + n = data.size then 4 else 0) n) (head16 a n ++ data.extract a (a + n)) 16 (by rw [ByteArray.size_append, head16_size]; omega)
  rw [hdr_size] at this
  rw [this, ext_left _ _ _ _ (by rw [head16_size]; omega)]
  have := ext_all (head16 a n)
  rw [head16_size] at this
  exact this
theorem got_data : (msgAt data a n ++ r).extract 24 (24 + n) = data.extract a (a + n) := by
  rw [ext_left _ _ _ _ (by rw [msgAt_size h]; omega)]
  unfold msgAt
  have := ext_mid (hdr 7 (if a + n = data.size then 4 else 0) n ++ head16 a n) (data.extract a (a + n)) n (by rw [chunk_size h]; omega)
  rw [ByteArray.size_append, hdr_size, head16_size] at this
  rw [this]
  have := ext_all (data.extract a (a + n))
  rw [chunk_size h] at this
  exact this
theorem got_rest : (msgAt data a n ++ r).extract (24 + n) (msgAt data a n ++ r).size = r := by
  have := ext_right (msgAt data a n) r
  rw [msgAt_size h] at this
  exact this
end
end Go.Proofs.YthlpiipobcomfaaGreatDoor
