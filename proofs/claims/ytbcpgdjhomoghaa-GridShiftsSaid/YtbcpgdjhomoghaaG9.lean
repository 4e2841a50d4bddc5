/- Products of words, cells repeated: walked. -/
import Derived.Test.YtbcpgdjhomoghaaG8
namespace Go.Proofs.Ytbcpgdjhomoghaa
open Go.RowKit Go.Vc
set_option linter.unusedVariables false
theorem low32n {n : Nat} (h : n ≤ 4096) : bits .and .u64 (n : Int) 4294967295 = (n : Int) := by
 have h1 : ((BitVec.ofInt IntKind.u64.bits (n : Int)) &&& (BitVec.ofInt IntKind.u64.bits 4294967295)).toNat = n := by
  rw [BitVec.toNat_and, BitVec.toNat_ofInt, BitVec.toNat_ofInt]
  show ((n : Int) % 18446744073709551616).toNat &&& (4294967295 : Nat) = n
  rw [show ((n : Int) % 18446744073709551616).toNat = n by omega, show (4294967295 : Nat) = 2 ^ 32 - 1 from rfl, Nat.and_two_pow_sub_one_eq_mod]
  exact Nat.mod_eq_of_lt (by omega)
 show IntKind.u64.wrap (((BitVec.ofInt IntKind.u64.bits (n : Int)) &&& (BitVec.ofInt IntKind.u64.bits 4294967295)).toNat : Int) = n
 rw [h1]
 exact IntWalk.u64_in _ (by omega)
theorem high32n {n : Nat} (h : n ≤ 4096) : (n : Int) / 2 ^ min (32 : Int).toNat IntKind.u64.bits = 0 := by
 rw [show (2 : Int) ^ min (32 : Int).toNat IntKind.u64.bits = 4294967296 from by decide]
 omega
theorem small64n {n : Nat} (h : n ≤ 4096) : IntKind.u64.wrap (n : Int) = (n : Int) := IntWalk.u64_in _ (by omega)
theorem mul64_any (n : Nat) (h : n ≤ 4096) (w : World) : Gives tb 61 [.int .u64 1, .int .u64 n] w (.tuple #[.int .u64 0, .int .u64 n]) := by
 have h1 := low32n h
 have h2 := high32n h
 have h3 := small64n h
 have h4 : IntKind.u64.wrap (1 * (n : Int)) = n := by rw [Int.one_mul]; exact h3
 generalize (n : Int) = N at *
 refine gives_of (fn := Try.f61) Try.func61 rfl Try.ntmps61 rfl ?_
 repeat refine c_seq ?_
 refine c_region ?_
 refine qa rfl rfl ?_
 refine qa rfl rfl ?_
 refine step_nil ?_
 repeat refine c_seq ?_
 refine c_region ?_
 refine qm rfl rfl ?_
 refine step_as rfl (pure_and rfl rfl) (show _ = Value.int .u64 1 from congrArg (Value.int .u64) (by decide)) ?_
 refine qa rfl rfl ?_
 refine step_nil ?_
 repeat refine c_seq ?_
 refine c_region ?_
 refine qm rfl rfl ?_
 refine step_as rfl (pure_shr rfl rfl (by decide)) (show _ = Value.int .u64 0 from congrArg (Value.int .u64) (by decide)) ?_
 refine qa rfl rfl ?_
 refine step_nil ?_
 repeat refine c_seq ?_
 refine c_region ?_
 refine qm rfl rfl ?_
 refine step_as rfl (pure_and rfl rfl) (congrArg (Value.int .u64) h1) ?_
 refine qa rfl rfl ?_
 refine step_nil ?_
 repeat refine c_seq ?_
 refine c_region ?_
 refine qm rfl rfl ?_
 refine step_as rfl (pure_shr rfl rfl (by decide)) (congrArg (Value.int .u64) h2) ?_
 refine qa rfl rfl ?_
 refine step_nil ?_
 repeat refine c_seq ?_
 refine c_region ?_
 refine qm rfl rfl ?_
 refine qm rfl rfl ?_
 refine step_as rfl (pure_mul rfl rfl) (congrArg (Value.int .u64) h4) ?_
 refine qa rfl rfl ?_
 refine step_nil ?_
 repeat refine c_seq ?_
 refine c_region ?_
 refine qm rfl rfl ?_
 refine qm rfl rfl ?_
 refine step_as rfl (pure_mul rfl rfl) (show _ = Value.int .u64 0 from congrArg (Value.int .u64) (by rw [Int.zero_mul]; decide)) ?_
 refine qm rfl rfl ?_
 refine step_as rfl (pure_shr rfl rfl (by decide)) (congrArg (Value.int .u64) h2) ?_
 refine step_as rfl (pure_add rfl rfl) (show _ = Value.int .u64 0 from congrArg (Value.int .u64) (by decide)) ?_
 refine qa rfl rfl ?_
 refine step_nil ?_
 repeat refine c_seq ?_
 refine c_region ?_
 refine qm rfl rfl ?_
 refine step_as rfl (pure_and rfl rfl) (show _ = Value.int .u64 0 from congrArg (Value.int .u64) (by decide)) ?_
 refine qa rfl rfl ?_
 refine step_nil ?_
 repeat refine c_seq ?_
 refine c_region ?_
 refine qm rfl rfl ?_
 refine step_as rfl (pure_shr rfl rfl (by decide)) (show _ = Value.int .u64 0 from congrArg (Value.int .u64) (by decide)) ?_
 refine qa rfl rfl ?_
 refine step_nil ?_
 repeat refine c_seq ?_
 refine c_region ?_
 refine qm rfl rfl ?_
 refine qm rfl rfl ?_
 refine qm rfl rfl ?_
 refine step_as rfl (pure_mul rfl rfl) (show _ = Value.int .u64 0 from congrArg (Value.int .u64) (by decide)) ?_
 refine step_as rfl (pure_add rfl rfl) (show _ = Value.int .u64 0 from congrArg (Value.int .u64) (by decide)) ?_
 refine qa rfl rfl ?_
 refine step_nil ?_
 repeat refine c_seq ?_
 refine c_region ?_
 refine qm rfl rfl ?_
 refine qm rfl rfl ?_
 refine step_as rfl (pure_mul rfl rfl) (show _ = Value.int .u64 0 from congrArg (Value.int .u64) (by decide)) ?_
 refine qm rfl rfl ?_
 refine step_as rfl (pure_add rfl rfl) (show _ = Value.int .u64 0 from congrArg (Value.int .u64) (by decide)) ?_
 refine qm rfl rfl ?_
 refine step_as rfl (pure_shr rfl rfl (by decide)) (show _ = Value.int .u64 0 from congrArg (Value.int .u64) (by decide)) ?_
 refine step_as rfl (pure_add rfl rfl) (show _ = Value.int .u64 0 from congrArg (Value.int .u64) (by decide)) ?_
 refine qa rfl rfl ?_
 refine step_nil ?_
 repeat refine c_seq ?_
 refine c_region ?_
 refine qm rfl rfl ?_
 refine qm rfl rfl ?_
 refine step_as rfl (pure_mul rfl rfl) (congrArg (Value.int .u64) h4) ?_
 refine qa rfl rfl ?_
 refine step_nil ?_
 exact c_ret ⟨_, res_tmp2 Try.results61 rfl rfl, rfl⟩
theorem mul_any (n : Nat) (h : n ≤ 4096) (w : World) : Gives tb 53 [.int .u64 1, .int .u64 n] w (.tuple #[.int .u64 0, .int .u64 n]) := by
 have h3 := fun w => mul64_any n h w
 generalize (n : Int) = N at *
 refine gives_of (fn := Try.f53) Try.func53 rfl Try.ntmps53 rfl ?_
 repeat refine c_seq ?_
 refine c_region ?_
 refine qa rfl rfl ?_
 refine qa rfl rfl ?_
 refine step_nil ?_
 repeat refine c_seq ?_
 refine c_cond_no rfl rfl ?_
 refine c_skip ?_
 repeat refine c_seq ?_
 refine c_region ?_
 refine qm rfl rfl ?_
 refine qm rfl rfl ?_
 refine step_gives rfl fun61 rfl (fun w _ _ => h3 w) ?_
 refine qm rfl rfl ?_
 refine qx rfl rfl rfl ?_
 refine qx rfl rfl rfl ?_
 refine qa rfl rfl ?_
 refine qa rfl rfl ?_
 refine step_nil ?_
 repeat refine c_seq ?_
 refine c_region ?_
 refine qm rfl rfl ?_
 refine qm rfl rfl ?_
 refine qa rfl rfl ?_
 refine qa rfl rfl ?_
 refine step_nil ?_
 exact c_ret ⟨_, res_tmp2 Try.results53 rfl rfl, rfl⟩
end Go.Proofs.Ytbcpgdjhomoghaa
