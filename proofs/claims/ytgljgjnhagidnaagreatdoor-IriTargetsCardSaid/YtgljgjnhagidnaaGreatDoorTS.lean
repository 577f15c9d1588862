/- Reference 15: bytes, told, Right. -/
import Derived.Test.YtgljgjnhagidnaaGreatDoorTM
import Derived.Test.YtgljgjnhagidnaaGreatDoorDen05
namespace Go.Proofs.YtgljgjnhagidnaaGreatDoor.Den
open Go Go.Dn Go.Dn.M Go.Dn.Pl
set_option maxRecDepth 100000
set_option linter.unusedVariables false
set_option linter.unusedSimpArgs false

theorem rDigit_eq : ∀ c : Nat, c < 256 → f71 (.int .i64 (c : Int)) = M.ret (.int .i64 ((digC c : Int) - 1))
  | 0, _ => by kernel_rfl
  | 1, _ => by kernel_rfl
  | 2, _ => by kernel_rfl
  | 3, _ => by kernel_rfl
  | 4, _ => by kernel_rfl
  | 5, _ => by kernel_rfl
  | 6, _ => by kernel_rfl
  | 7, _ => by kernel_rfl
  | 8, _ => by kernel_rfl
  | 9, _ => by kernel_rfl
  | 10, _ => by kernel_rfl
  | 11, _ => by kernel_rfl
  | 12, _ => by kernel_rfl
  | 13, _ => by kernel_rfl
  | 14, _ => by kernel_rfl
  | 15, _ => by kernel_rfl
  | 16, _ => by kernel_rfl
  | 17, _ => by kernel_rfl
  | 18, _ => by kernel_rfl
  | 19, _ => by kernel_rfl
  | 20, _ => by kernel_rfl
  | 21, _ => by kernel_rfl
  | 22, _ => by kernel_rfl
  | 23, _ => by kernel_rfl
  | 24, _ => by kernel_rfl
  | 25, _ => by kernel_rfl
  | 26, _ => by kernel_rfl
  | 27, _ => by kernel_rfl
  | 28, _ => by kernel_rfl
  | 29, _ => by kernel_rfl
  | 30, _ => by kernel_rfl
  | 31, _ => by kernel_rfl
  | 32, _ => by kernel_rfl
  | 33, _ => by kernel_rfl
  | 34, _ => by kernel_rfl
  | 35, _ => by kernel_rfl
  | 36, _ => by kernel_rfl
  | 37, _ => by kernel_rfl
  | 38, _ => by kernel_rfl
  | 39, _ => by kernel_rfl
  | 40, _ => by kernel_rfl
  | 41, _ => by kernel_rfl
  | 42, _ => by kernel_rfl
  | 43, _ => by kernel_rfl
  | 44, _ => by kernel_rfl
  | 45, _ => by kernel_rfl
  | 46, _ => by kernel_rfl
  | 47, _ => by kernel_rfl
  | 48, _ => by kernel_rfl
  | 49, _ => by kernel_rfl
  | 50, _ => by kernel_rfl
  | 51, _ => by kernel_rfl
  | 52, _ => by kernel_rfl
  | 53, _ => by kernel_rfl
  | 54, _ => by kernel_rfl
  | 55, _ => by kernel_rfl
  | 56, _ => by kernel_rfl
  | 57, _ => by kernel_rfl
  | 58, _ => by kernel_rfl
  | 59, _ => by kernel_rfl
  | 60, _ => by kernel_rfl
  | 61, _ => by kernel_rfl
  | 62, _ => by kernel_rfl
  | 63, _ => by kernel_rfl
  | 64, _ => by kernel_rfl
  | 65, _ => by kernel_rfl
  | 66, _ => by kernel_rfl
  | 67, _ => by kernel_rfl
  | 68, _ => by kernel_rfl
  | 69, _ => by kernel_rfl
  | 70, _ => by kernel_rfl
  | 71, _ => by kernel_rfl
  | 72, _ => by kernel_rfl
  | 73, _ => by kernel_rfl
  | 74, _ => by kernel_rfl
  | 75, _ => by kernel_rfl
  | 76, _ => by kernel_rfl
  | 77, _ => by kernel_rfl
  | 78, _ => by kernel_rfl
  | 79, _ => by kernel_rfl
  | 80, _ => by kernel_rfl
  | 81, _ => by kernel_rfl
  | 82, _ => by kernel_rfl
  | 83, _ => by kernel_rfl
  | 84, _ => by kernel_rfl
  | 85, _ => by kernel_rfl
  | 86, _ => by kernel_rfl
  | 87, _ => by kernel_rfl
  | 88, _ => by kernel_rfl
  | 89, _ => by kernel_rfl
  | 90, _ => by kernel_rfl
  | 91, _ => by kernel_rfl
  | 92, _ => by kernel_rfl
  | 93, _ => by kernel_rfl
  | 94, _ => by kernel_rfl
  | 95, _ => by kernel_rfl
  | 96, _ => by kernel_rfl
  | 97, _ => by kernel_rfl
  | 98, _ => by kernel_rfl
  | 99, _ => by kernel_rfl
  | 100, _ => by kernel_rfl
  | 101, _ => by kernel_rfl
  | 102, _ => by kernel_rfl
  | 103, _ => by kernel_rfl
  | 104, _ => by kernel_rfl
  | 105, _ => by kernel_rfl
  | 106, _ => by kernel_rfl
  | 107, _ => by kernel_rfl
  | 108, _ => by kernel_rfl
  | 109, _ => by kernel_rfl
  | 110, _ => by kernel_rfl
  | 111, _ => by kernel_rfl
  | 112, _ => by kernel_rfl
  | 113, _ => by kernel_rfl
  | 114, _ => by kernel_rfl
  | 115, _ => by kernel_rfl
  | 116, _ => by kernel_rfl
  | 117, _ => by kernel_rfl
  | 118, _ => by kernel_rfl
  | 119, _ => by kernel_rfl
  | 120, _ => by kernel_rfl
  | 121, _ => by kernel_rfl
  | 122, _ => by kernel_rfl
  | 123, _ => by kernel_rfl
  | 124, _ => by kernel_rfl
  | 125, _ => by kernel_rfl
  | 126, _ => by kernel_rfl
  | 127, _ => by kernel_rfl
  | 128, _ => by kernel_rfl
  | 129, _ => by kernel_rfl
  | 130, _ => by kernel_rfl
  | 131, _ => by kernel_rfl
  | 132, _ => by kernel_rfl
  | 133, _ => by kernel_rfl
  | 134, _ => by kernel_rfl
  | 135, _ => by kernel_rfl
  | 136, _ => by kernel_rfl
  | 137, _ => by kernel_rfl
  | 138, _ => by kernel_rfl
  | 139, _ => by kernel_rfl
  | 140, _ => by kernel_rfl
  | 141, _ => by kernel_rfl
  | 142, _ => by kernel_rfl
  | 143, _ => by kernel_rfl
  | 144, _ => by kernel_rfl
  | 145, _ => by kernel_rfl
  | 146, _ => by kernel_rfl
  | 147, _ => by kernel_rfl
  | 148, _ => by kernel_rfl
  | 149, _ => by kernel_rfl
  | 150, _ => by kernel_rfl
  | 151, _ => by kernel_rfl
  | 152, _ => by kernel_rfl
  | 153, _ => by kernel_rfl
  | 154, _ => by kernel_rfl
  | 155, _ => by kernel_rfl
  | 156, _ => by kernel_rfl
  | 157, _ => by kernel_rfl
  | 158, _ => by kernel_rfl
  | 159, _ => by kernel_rfl
  | 160, _ => by kernel_rfl
  | 161, _ => by kernel_rfl
  | 162, _ => by kernel_rfl
  | 163, _ => by kernel_rfl
  | 164, _ => by kernel_rfl
  | 165, _ => by kernel_rfl
  | 166, _ => by kernel_rfl
  | 167, _ => by kernel_rfl
  | 168, _ => by kernel_rfl
  | 169, _ => by kernel_rfl
  | 170, _ => by kernel_rfl
  | 171, _ => by kernel_rfl
  | 172, _ => by kernel_rfl
  | 173, _ => by kernel_rfl
  | 174, _ => by kernel_rfl
  | 175, _ => by kernel_rfl
  | 176, _ => by kernel_rfl
  | 177, _ => by kernel_rfl
  | 178, _ => by kernel_rfl
  | 179, _ => by kernel_rfl
  | 180, _ => by kernel_rfl
  | 181, _ => by kernel_rfl
  | 182, _ => by kernel_rfl
  | 183, _ => by kernel_rfl
  | 184, _ => by kernel_rfl
  | 185, _ => by kernel_rfl
  | 186, _ => by kernel_rfl
  | 187, _ => by kernel_rfl
  | 188, _ => by kernel_rfl
  | 189, _ => by kernel_rfl
  | 190, _ => by kernel_rfl
  | 191, _ => by kernel_rfl
  | 192, _ => by kernel_rfl
  | 193, _ => by kernel_rfl
  | 194, _ => by kernel_rfl
  | 195, _ => by kernel_rfl
  | 196, _ => by kernel_rfl
  | 197, _ => by kernel_rfl
  | 198, _ => by kernel_rfl
  | 199, _ => by kernel_rfl
  | 200, _ => by kernel_rfl
  | 201, _ => by kernel_rfl
  | 202, _ => by kernel_rfl
  | 203, _ => by kernel_rfl
  | 204, _ => by kernel_rfl
  | 205, _ => by kernel_rfl
  | 206, _ => by kernel_rfl
  | 207, _ => by kernel_rfl
  | 208, _ => by kernel_rfl
  | 209, _ => by kernel_rfl
  | 210, _ => by kernel_rfl
  | 211, _ => by kernel_rfl
  | 212, _ => by kernel_rfl
  | 213, _ => by kernel_rfl
  | 214, _ => by kernel_rfl
  | 215, _ => by kernel_rfl
  | 216, _ => by kernel_rfl
  | 217, _ => by kernel_rfl
  | 218, _ => by kernel_rfl
  | 219, _ => by kernel_rfl
  | 220, _ => by kernel_rfl
  | 221, _ => by kernel_rfl
  | 222, _ => by kernel_rfl
  | 223, _ => by kernel_rfl
  | 224, _ => by kernel_rfl
  | 225, _ => by kernel_rfl
  | 226, _ => by kernel_rfl
  | 227, _ => by kernel_rfl
  | 228, _ => by kernel_rfl
  | 229, _ => by kernel_rfl
  | 230, _ => by kernel_rfl
  | 231, _ => by kernel_rfl
  | 232, _ => by kernel_rfl
  | 233, _ => by kernel_rfl
  | 234, _ => by kernel_rfl
  | 235, _ => by kernel_rfl
  | 236, _ => by kernel_rfl
  | 237, _ => by kernel_rfl
  | 238, _ => by kernel_rfl
  | 239, _ => by kernel_rfl
  | 240, _ => by kernel_rfl
  | 241, _ => by kernel_rfl
  | 242, _ => by kernel_rfl
  | 243, _ => by kernel_rfl
  | 244, _ => by kernel_rfl
  | 245, _ => by kernel_rfl
  | 246, _ => by kernel_rfl
  | 247, _ => by kernel_rfl
  | 248, _ => by kernel_rfl
  | 249, _ => by kernel_rfl
  | 250, _ => by kernel_rfl
  | 251, _ => by kernel_rfl
  | 252, _ => by kernel_rfl
  | 253, _ => by kernel_rfl
  | 254, _ => by kernel_rfl
  | 255, _ => by kernel_rfl
  | n + 256, h => absurd h (by omega)
theorem rPlain_eq : ∀ c : Nat, c < 256 → f49 (.int .i64 (c : Int)) = M.ret (.bool (plainC c))
  | 0, _ => by kernel_rfl
  | 1, _ => by kernel_rfl
  | 2, _ => by kernel_rfl
  | 3, _ => by kernel_rfl
  | 4, _ => by kernel_rfl
  | 5, _ => by kernel_rfl
  | 6, _ => by kernel_rfl
  | 7, _ => by kernel_rfl
  | 8, _ => by kernel_rfl
  | 9, _ => by kernel_rfl
  | 10, _ => by kernel_rfl
  | 11, _ => by kernel_rfl
  | 12, _ => by kernel_rfl
  | 13, _ => by kernel_rfl
  | 14, _ => by kernel_rfl
  | 15, _ => by kernel_rfl
  | 16, _ => by kernel_rfl
  | 17, _ => by kernel_rfl
  | 18, _ => by kernel_rfl
  | 19, _ => by kernel_rfl
  | 20, _ => by kernel_rfl
  | 21, _ => by kernel_rfl
  | 22, _ => by kernel_rfl
  | 23, _ => by kernel_rfl
  | 24, _ => by kernel_rfl
  | 25, _ => by kernel_rfl
  | 26, _ => by kernel_rfl
  | 27, _ => by kernel_rfl
  | 28, _ => by kernel_rfl
  | 29, _ => by kernel_rfl
  | 30, _ => by kernel_rfl
  | 31, _ => by kernel_rfl
  | 32, _ => by kernel_rfl
  | 33, _ => by kernel_rfl
  | 34, _ => by kernel_rfl
  | 35, _ => by kernel_rfl
  | 36, _ => by kernel_rfl
  | 37, _ => by kernel_rfl
  | 38, _ => by kernel_rfl
  | 39, _ => by kernel_rfl
  | 40, _ => by kernel_rfl
  | 41, _ => by kernel_rfl
  | 42, _ => by kernel_rfl
  | 43, _ => by kernel_rfl
  | 44, _ => by kernel_rfl
  | 45, _ => by kernel_rfl
  | 46, _ => by kernel_rfl
  | 47, _ => by kernel_rfl
  | 48, _ => by kernel_rfl
  | 49, _ => by kernel_rfl
  | 50, _ => by kernel_rfl
  | 51, _ => by kernel_rfl
  | 52, _ => by kernel_rfl
  | 53, _ => by kernel_rfl
  | 54, _ => by kernel_rfl
  | 55, _ => by kernel_rfl
  | 56, _ => by kernel_rfl
  | 57, _ => by kernel_rfl
  | 58, _ => by kernel_rfl
  | 59, _ => by kernel_rfl
  | 60, _ => by kernel_rfl
  | 61, _ => by kernel_rfl
  | 62, _ => by kernel_rfl
  | 63, _ => by kernel_rfl
  | 64, _ => by kernel_rfl
  | 65, _ => by kernel_rfl
  | 66, _ => by kernel_rfl
  | 67, _ => by kernel_rfl
  | 68, _ => by kernel_rfl
  | 69, _ => by kernel_rfl
  | 70, _ => by kernel_rfl
  | 71, _ => by kernel_rfl
  | 72, _ => by kernel_rfl
  | 73, _ => by kernel_rfl
  | 74, _ => by kernel_rfl
  | 75, _ => by kernel_rfl
  | 76, _ => by kernel_rfl
  | 77, _ => by kernel_rfl
  | 78, _ => by kernel_rfl
  | 79, _ => by kernel_rfl
  | 80, _ => by kernel_rfl
  | 81, _ => by kernel_rfl
  | 82, _ => by kernel_rfl
  | 83, _ => by kernel_rfl
  | 84, _ => by kernel_rfl
  | 85, _ => by kernel_rfl
  | 86, _ => by kernel_rfl
  | 87, _ => by kernel_rfl
  | 88, _ => by kernel_rfl
  | 89, _ => by kernel_rfl
  | 90, _ => by kernel_rfl
  | 91, _ => by kernel_rfl
  | 92, _ => by kernel_rfl
  | 93, _ => by kernel_rfl
  | 94, _ => by kernel_rfl
  | 95, _ => by kernel_rfl
  | 96, _ => by kernel_rfl
  | 97, _ => by kernel_rfl
  | 98, _ => by kernel_rfl
  | 99, _ => by kernel_rfl
  | 100, _ => by kernel_rfl
  | 101, _ => by kernel_rfl
  | 102, _ => by kernel_rfl
  | 103, _ => by kernel_rfl
  | 104, _ => by kernel_rfl
  | 105, _ => by kernel_rfl
  | 106, _ => by kernel_rfl
  | 107, _ => by kernel_rfl
  | 108, _ => by kernel_rfl
  | 109, _ => by kernel_rfl
  | 110, _ => by kernel_rfl
  | 111, _ => by kernel_rfl
  | 112, _ => by kernel_rfl
  | 113, _ => by kernel_rfl
  | 114, _ => by kernel_rfl
  | 115, _ => by kernel_rfl
  | 116, _ => by kernel_rfl
  | 117, _ => by kernel_rfl
  | 118, _ => by kernel_rfl
  | 119, _ => by kernel_rfl
  | 120, _ => by kernel_rfl
  | 121, _ => by kernel_rfl
  | 122, _ => by kernel_rfl
  | 123, _ => by kernel_rfl
  | 124, _ => by kernel_rfl
  | 125, _ => by kernel_rfl
  | 126, _ => by kernel_rfl
  | 127, _ => by kernel_rfl
  | 128, _ => by kernel_rfl
  | 129, _ => by kernel_rfl
  | 130, _ => by kernel_rfl
  | 131, _ => by kernel_rfl
  | 132, _ => by kernel_rfl
  | 133, _ => by kernel_rfl
  | 134, _ => by kernel_rfl
  | 135, _ => by kernel_rfl
  | 136, _ => by kernel_rfl
  | 137, _ => by kernel_rfl
  | 138, _ => by kernel_rfl
  | 139, _ => by kernel_rfl
  | 140, _ => by kernel_rfl
  | 141, _ => by kernel_rfl
  | 142, _ => by kernel_rfl
  | 143, _ => by kernel_rfl
  | 144, _ => by kernel_rfl
  | 145, _ => by kernel_rfl
  | 146, _ => by kernel_rfl
  | 147, _ => by kernel_rfl
  | 148, _ => by kernel_rfl
  | 149, _ => by kernel_rfl
  | 150, _ => by kernel_rfl
  | 151, _ => by kernel_rfl
  | 152, _ => by kernel_rfl
  | 153, _ => by kernel_rfl
  | 154, _ => by kernel_rfl
  | 155, _ => by kernel_rfl
  | 156, _ => by kernel_rfl
  | 157, _ => by kernel_rfl
  | 158, _ => by kernel_rfl
  | 159, _ => by kernel_rfl
  | 160, _ => by kernel_rfl
  | 161, _ => by kernel_rfl
  | 162, _ => by kernel_rfl
  | 163, _ => by kernel_rfl
  | 164, _ => by kernel_rfl
  | 165, _ => by kernel_rfl
  | 166, _ => by kernel_rfl
  | 167, _ => by kernel_rfl
  | 168, _ => by kernel_rfl
  | 169, _ => by kernel_rfl
  | 170, _ => by kernel_rfl
  | 171, _ => by kernel_rfl
  | 172, _ => by kernel_rfl
  | 173, _ => by kernel_rfl
  | 174, _ => by kernel_rfl
  | 175, _ => by kernel_rfl
  | 176, _ => by kernel_rfl
  | 177, _ => by kernel_rfl
  | 178, _ => by kernel_rfl
  | 179, _ => by kernel_rfl
  | 180, _ => by kernel_rfl
  | 181, _ => by kernel_rfl
  | 182, _ => by kernel_rfl
  | 183, _ => by kernel_rfl
  | 184, _ => by kernel_rfl
  | 185, _ => by kernel_rfl
  | 186, _ => by kernel_rfl
  | 187, _ => by kernel_rfl
  | 188, _ => by kernel_rfl
  | 189, _ => by kernel_rfl
  | 190, _ => by kernel_rfl
  | 191, _ => by kernel_rfl
  | 192, _ => by kernel_rfl
  | 193, _ => by kernel_rfl
  | 194, _ => by kernel_rfl
  | 195, _ => by kernel_rfl
  | 196, _ => by kernel_rfl
  | 197, _ => by kernel_rfl
  | 198, _ => by kernel_rfl
  | 199, _ => by kernel_rfl
  | 200, _ => by kernel_rfl
  | 201, _ => by kernel_rfl
  | 202, _ => by kernel_rfl
  | 203, _ => by kernel_rfl
  | 204, _ => by kernel_rfl
  | 205, _ => by kernel_rfl
  | 206, _ => by kernel_rfl
  | 207, _ => by kernel_rfl
  | 208, _ => by kernel_rfl
  | 209, _ => by kernel_rfl
  | 210, _ => by kernel_rfl
  | 211, _ => by kernel_rfl
  | 212, _ => by kernel_rfl
  | 213, _ => by kernel_rfl
  | 214, _ => by kernel_rfl
  | 215, _ => by kernel_rfl
  | 216, _ => by kernel_rfl
  | 217, _ => by kernel_rfl
  | 218, _ => by kernel_rfl
  | 219, _ => by kernel_rfl
  | 220, _ => by kernel_rfl
  | 221, _ => by kernel_rfl
  | 222, _ => by kernel_rfl
  | 223, _ => by kernel_rfl
  | 224, _ => by kernel_rfl
  | 225, _ => by kernel_rfl
  | 226, _ => by kernel_rfl
  | 227, _ => by kernel_rfl
  | 228, _ => by kernel_rfl
  | 229, _ => by kernel_rfl
  | 230, _ => by kernel_rfl
  | 231, _ => by kernel_rfl
  | 232, _ => by kernel_rfl
  | 233, _ => by kernel_rfl
  | 234, _ => by kernel_rfl
  | 235, _ => by kernel_rfl
  | 236, _ => by kernel_rfl
  | 237, _ => by kernel_rfl
  | 238, _ => by kernel_rfl
  | 239, _ => by kernel_rfl
  | 240, _ => by kernel_rfl
  | 241, _ => by kernel_rfl
  | 242, _ => by kernel_rfl
  | 243, _ => by kernel_rfl
  | 244, _ => by kernel_rfl
  | 245, _ => by kernel_rfl
  | 246, _ => by kernel_rfl
  | 247, _ => by kernel_rfl
  | 248, _ => by kernel_rfl
  | 249, _ => by kernel_rfl
  | 250, _ => by kernel_rfl
  | 251, _ => by kernel_rfl
  | 252, _ => by kernel_rfl
  | 253, _ => by kernel_rfl
  | 254, _ => by kernel_rfl
  | 255, _ => by kernel_rfl
  | n + 256, h => absurd h (by omega)
theorem rSign_eq : ∀ c : Nat, c < 256 → f50 (.int .i64 (c : Int)) = M.ret (.bool (signC c))
  | 0, _ => by kernel_rfl
  | 1, _ => by kernel_rfl
  | 2, _ => by kernel_rfl
  | 3, _ => by kernel_rfl
  | 4, _ => by kernel_rfl
  | 5, _ => by kernel_rfl
  | 6, _ => by kernel_rfl
  | 7, _ => by kernel_rfl
  | 8, _ => by kernel_rfl
  | 9, _ => by kernel_rfl
  | 10, _ => by kernel_rfl
  | 11, _ => by kernel_rfl
  | 12, _ => by kernel_rfl
  | 13, _ => by kernel_rfl
  | 14, _ => by kernel_rfl
  | 15, _ => by kernel_rfl
  | 16, _ => by kernel_rfl
  | 17, _ => by kernel_rfl
  | 18, _ => by kernel_rfl
  | 19, _ => by kernel_rfl
  | 20, _ => by kernel_rfl
  | 21, _ => by kernel_rfl
  | 22, _ => by kernel_rfl
  | 23, _ => by kernel_rfl
  | 24, _ => by kernel_rfl
  | 25, _ => by kernel_rfl
  | 26, _ => by kernel_rfl
  | 27, _ => by kernel_rfl
  | 28, _ => by kernel_rfl
  | 29, _ => by kernel_rfl
  | 30, _ => by kernel_rfl
  | 31, _ => by kernel_rfl
  | 32, _ => by kernel_rfl
  | 33, _ => by kernel_rfl
  | 34, _ => by kernel_rfl
  | 35, _ => by kernel_rfl
  | 36, _ => by kernel_rfl
  | 37, _ => by kernel_rfl
  | 38, _ => by kernel_rfl
  | 39, _ => by kernel_rfl
  | 40, _ => by kernel_rfl
  | 41, _ => by kernel_rfl
  | 42, _ => by kernel_rfl
  | 43, _ => by kernel_rfl
  | 44, _ => by kernel_rfl
  | 45, _ => by kernel_rfl
  | 46, _ => by kernel_rfl
  | 47, _ => by kernel_rfl
  | 48, _ => by kernel_rfl
  | 49, _ => by kernel_rfl
  | 50, _ => by kernel_rfl
  | 51, _ => by kernel_rfl
  | 52, _ => by kernel_rfl
  | 53, _ => by kernel_rfl
  | 54, _ => by kernel_rfl
  | 55, _ => by kernel_rfl
  | 56, _ => by kernel_rfl
  | 57, _ => by kernel_rfl
  | 58, _ => by kernel_rfl
  | 59, _ => by kernel_rfl
  | 60, _ => by kernel_rfl
  | 61, _ => by kernel_rfl
  | 62, _ => by kernel_rfl
  | 63, _ => by kernel_rfl
  | 64, _ => by kernel_rfl
  | 65, _ => by kernel_rfl
  | 66, _ => by kernel_rfl
  | 67, _ => by kernel_rfl
  | 68, _ => by kernel_rfl
  | 69, _ => by kernel_rfl
  | 70, _ => by kernel_rfl
  | 71, _ => by kernel_rfl
  | 72, _ => by kernel_rfl
  | 73, _ => by kernel_rfl
  | 74, _ => by kernel_rfl
  | 75, _ => by kernel_rfl
  | 76, _ => by kernel_rfl
  | 77, _ => by kernel_rfl
  | 78, _ => by kernel_rfl
  | 79, _ => by kernel_rfl
  | 80, _ => by kernel_rfl
  | 81, _ => by kernel_rfl
  | 82, _ => by kernel_rfl
  | 83, _ => by kernel_rfl
  | 84, _ => by kernel_rfl
  | 85, _ => by kernel_rfl
  | 86, _ => by kernel_rfl
  | 87, _ => by kernel_rfl
  | 88, _ => by kernel_rfl
  | 89, _ => by kernel_rfl
  | 90, _ => by kernel_rfl
  | 91, _ => by kernel_rfl
  | 92, _ => by kernel_rfl
  | 93, _ => by kernel_rfl
  | 94, _ => by kernel_rfl
  | 95, _ => by kernel_rfl
  | 96, _ => by kernel_rfl
  | 97, _ => by kernel_rfl
  | 98, _ => by kernel_rfl
  | 99, _ => by kernel_rfl
  | 100, _ => by kernel_rfl
  | 101, _ => by kernel_rfl
  | 102, _ => by kernel_rfl
  | 103, _ => by kernel_rfl
  | 104, _ => by kernel_rfl
  | 105, _ => by kernel_rfl
  | 106, _ => by kernel_rfl
  | 107, _ => by kernel_rfl
  | 108, _ => by kernel_rfl
  | 109, _ => by kernel_rfl
  | 110, _ => by kernel_rfl
  | 111, _ => by kernel_rfl
  | 112, _ => by kernel_rfl
  | 113, _ => by kernel_rfl
  | 114, _ => by kernel_rfl
  | 115, _ => by kernel_rfl
  | 116, _ => by kernel_rfl
  | 117, _ => by kernel_rfl
  | 118, _ => by kernel_rfl
  | 119, _ => by kernel_rfl
  | 120, _ => by kernel_rfl
  | 121, _ => by kernel_rfl
  | 122, _ => by kernel_rfl
  | 123, _ => by kernel_rfl
  | 124, _ => by kernel_rfl
  | 125, _ => by kernel_rfl
  | 126, _ => by kernel_rfl
  | 127, _ => by kernel_rfl
  | 128, _ => by kernel_rfl
  | 129, _ => by kernel_rfl
  | 130, _ => by kernel_rfl
  | 131, _ => by kernel_rfl
  | 132, _ => by kernel_rfl
  | 133, _ => by kernel_rfl
  | 134, _ => by kernel_rfl
  | 135, _ => by kernel_rfl
  | 136, _ => by kernel_rfl
  | 137, _ => by kernel_rfl
  | 138, _ => by kernel_rfl
  | 139, _ => by kernel_rfl
  | 140, _ => by kernel_rfl
  | 141, _ => by kernel_rfl
  | 142, _ => by kernel_rfl
  | 143, _ => by kernel_rfl
  | 144, _ => by kernel_rfl
  | 145, _ => by kernel_rfl
  | 146, _ => by kernel_rfl
  | 147, _ => by kernel_rfl
  | 148, _ => by kernel_rfl
  | 149, _ => by kernel_rfl
  | 150, _ => by kernel_rfl
  | 151, _ => by kernel_rfl
  | 152, _ => by kernel_rfl
  | 153, _ => by kernel_rfl
  | 154, _ => by kernel_rfl
  | 155, _ => by kernel_rfl
  | 156, _ => by kernel_rfl
  | 157, _ => by kernel_rfl
  | 158, _ => by kernel_rfl
  | 159, _ => by kernel_rfl
  | 160, _ => by kernel_rfl
  | 161, _ => by kernel_rfl
  | 162, _ => by kernel_rfl
  | 163, _ => by kernel_rfl
  | 164, _ => by kernel_rfl
  | 165, _ => by kernel_rfl
  | 166, _ => by kernel_rfl
  | 167, _ => by kernel_rfl
  | 168, _ => by kernel_rfl
  | 169, _ => by kernel_rfl
  | 170, _ => by kernel_rfl
  | 171, _ => by kernel_rfl
  | 172, _ => by kernel_rfl
  | 173, _ => by kernel_rfl
  | 174, _ => by kernel_rfl
  | 175, _ => by kernel_rfl
  | 176, _ => by kernel_rfl
  | 177, _ => by kernel_rfl
  | 178, _ => by kernel_rfl
  | 179, _ => by kernel_rfl
  | 180, _ => by kernel_rfl
  | 181, _ => by kernel_rfl
  | 182, _ => by kernel_rfl
  | 183, _ => by kernel_rfl
  | 184, _ => by kernel_rfl
  | 185, _ => by kernel_rfl
  | 186, _ => by kernel_rfl
  | 187, _ => by kernel_rfl
  | 188, _ => by kernel_rfl
  | 189, _ => by kernel_rfl
  | 190, _ => by kernel_rfl
  | 191, _ => by kernel_rfl
  | 192, _ => by kernel_rfl
  | 193, _ => by kernel_rfl
  | 194, _ => by kernel_rfl
  | 195, _ => by kernel_rfl
  | 196, _ => by kernel_rfl
  | 197, _ => by kernel_rfl
  | 198, _ => by kernel_rfl
  | 199, _ => by kernel_rfl
  | 200, _ => by kernel_rfl
  | 201, _ => by kernel_rfl
  | 202, _ => by kernel_rfl
  | 203, _ => by kernel_rfl
  | 204, _ => by kernel_rfl
  | 205, _ => by kernel_rfl
  | 206, _ => by kernel_rfl
  | 207, _ => by kernel_rfl
  | 208, _ => by kernel_rfl
  | 209, _ => by kernel_rfl
  | 210, _ => by kernel_rfl
  | 211, _ => by kernel_rfl
  | 212, _ => by kernel_rfl
  | 213, _ => by kernel_rfl
  | 214, _ => by kernel_rfl
  | 215, _ => by kernel_rfl
  | 216, _ => by kernel_rfl
  | 217, _ => by kernel_rfl
  | 218, _ => by kernel_rfl
  | 219, _ => by kernel_rfl
  | 220, _ => by kernel_rfl
  | 221, _ => by kernel_rfl
  | 222, _ => by kernel_rfl
  | 223, _ => by kernel_rfl
  | 224, _ => by kernel_rfl
  | 225, _ => by kernel_rfl
  | 226, _ => by kernel_rfl
  | 227, _ => by kernel_rfl
  | 228, _ => by kernel_rfl
  | 229, _ => by kernel_rfl
  | 230, _ => by kernel_rfl
  | 231, _ => by kernel_rfl
  | 232, _ => by kernel_rfl
  | 233, _ => by kernel_rfl
  | 234, _ => by kernel_rfl
  | 235, _ => by kernel_rfl
  | 236, _ => by kernel_rfl
  | 237, _ => by kernel_rfl
  | 238, _ => by kernel_rfl
  | 239, _ => by kernel_rfl
  | 240, _ => by kernel_rfl
  | 241, _ => by kernel_rfl
  | 242, _ => by kernel_rfl
  | 243, _ => by kernel_rfl
  | 244, _ => by kernel_rfl
  | 245, _ => by kernel_rfl
  | 246, _ => by kernel_rfl
  | 247, _ => by kernel_rfl
  | 248, _ => by kernel_rfl
  | 249, _ => by kernel_rfl
  | 250, _ => by kernel_rfl
  | 251, _ => by kernel_rfl
  | 252, _ => by kernel_rfl
  | 253, _ => by kernel_rfl
  | 254, _ => by kernel_rfl
  | 255, _ => by kernel_rfl
  | n + 256, h => absurd h (by omega)

/-- A byte told at a place, or -1. -/
def toldI (s : List UInt8) : Int := match toldB s with
  | some v => (v : Int)
  | none => -1
theorem ci_u8 (c : Nat) (h : c < 256) : ci .i64 (.int .u8 (c : Int)) = M.ret (.int .i64 (c : Int)) := by
  rw [ci_int, wr_i64 _ (by omega) (by omega)]
theorem rTold_eq (s : List UInt8) (hs : s.length < 1000000000) (i : Nat) (hi : i ≤ s.length) : f48 (.str s) (.int .i64 (i : Int)) = M.ret (.int .i64 (toldI (s.drop i))) := by
  unfold f48
  rw [bi_add, wr_i64 _ (by omega) (by omega), bd_ret]
  simp only [lnS_str, bd_ret, bi_geq]
  by_cases h2 : i + 2 < s.length
  · have c1 : ((s.length : Int) ≤ (i : Int) + 2) = False := eq_false (by omega)
    have hd : s.drop i = s[i] :: s[i + 1] :: s[i + 2] :: s.drop (i + 3) := by
      rw [List.drop_eq_getElem_cons (by omega), List.drop_eq_getElem_cons (by omega), List.drop_eq_getElem_cons (by omega)]
    have ht : toldI (s.drop i) = if s[i] = 37 ∧ 0 < digC s[i + 1].toNat ∧ 0 < digC s[i + 2].toNat then ((16 * (digC s[i + 1].toNat - 1) + (digC s[i + 2].toNat - 1) : Nat) : Int) else -1 := by
      unfold toldI
      rw [hd, told3]
      by_cases h : s[i] = 37 ∧ 0 < digC s[i + 1].toNat ∧ 0 < digC s[i + 2].toNat
      · rw [if_pos h, if_pos h]
      · rw [if_neg h, if_neg h]
    rw [ht]
    simp only [c1, decide_false, gd_bool, if_true, bd_ret]
    rw [ixs_nat s .i64 i (by omega), bd_ret]
    simp only [bi_neq, bd_ret, pk_bool, Bool.false_eq_true, if_false]
    by_cases hc : s[i] = 37
    · have h37 : ((s[i].toNat : Int) ≠ 37) = False := eq_false (by rw [hc]; simp)
      simp only [h37, decide_false, cnd_false]
      rw [bi_add, wr_i64 _ (by omega) (by omega), bd_ret, ixs_int s .i64 _ (i + 1) (by omega) (by omega), bd_ret, ci_u8 _ (toNat_lt _), bd_ret, rDigit_eq _ (toNat_lt _), bd_ret]
      rw [ixs_int s .i64 _ (i + 2) (by omega) (by omega), bd_ret, ci_u8 _ (toNat_lt _), bd_ret, rDigit_eq _ (toNat_lt _), bd_ret]
      have d1 := digC_le s[i + 1].toNat
      have d2 := digC_le s[i + 2].toNat
      generalize digC s[i + 1].toNat = a at d1
      generalize digC s[i + 2].toNat = b at d2
      simp only [bi_lss, bd_ret]
      by_cases p1 : 0 < a
      · have q1 : ((a : Int) - 1 < 0) = False := eq_false (by omega)
        simp only [q1, decide_false, gd_bool, if_true, bd_ret, bi_lss, pk_bool, Bool.false_eq_true, if_false]
        by_cases p2 : 0 < b
        · have q2 : ((b : Int) - 1 < 0) = False := eq_false (by omega)
          simp only [q2, decide_false, cnd_false]
          rw [bi_mul, wr_i64 _ (by omega) (by omega), bd_ret, bi_add, wr_i64 _ (by omega) (by omega), bd_ret, if_pos ⟨hc, p1, p2⟩]
          congr 2
          omega
        · have q2 : ((b : Int) - 1 < 0) = True := eq_true (by omega)
          simp only [q2, decide_true, cnd_true]
          rw [if_neg (fun h => p2 h.2.2)]
      · have q1 : ((a : Int) - 1 < 0) = True := eq_true (by omega)
        simp only [q1, decide_true, gd_bool, Bool.true_eq_false, if_false, bd_ret, gd_tuple, pk_bool, if_true, cnd_true]
        rw [if_neg (fun h => p1 h.2.1)]
    · have h37 : ((s[i].toNat : Int) ≠ 37) = True := eq_true (fun e => hc (UInt8.toNat_inj.1 (by have : (37 : UInt8).toNat = 37 := rfl; omega)))
      simp only [h37, decide_true, cnd_true]
      rw [if_neg (fun h => hc h.1)]
  · have c1 : ((s.length : Int) ≤ (i : Int) + 2) = True := eq_true (by omega)
    have ht : toldI (s.drop i) = -1 := by
      unfold toldI
      have : (s.drop i).length ≤ 2 := by simp; omega
      match s.drop i, this with
      | [], _ => rfl
      | [_], _ => rfl
      | [_, _], _ => rfl
    rw [ht]
    simp only [c1, decide_true, gd_bool, Bool.true_eq_false, if_false, bd_ret, gd_tuple, pk_bool, if_true, cnd_true]
theorem is47 (b : UInt8) : decide ((b.toNat : Int) = 47) = decide (b = 47) := by
  rw [decide_eq_decide]
  exact ⟨fun h => UInt8.toNat_inj.1 (by have : (47 : UInt8).toNat = 47 := rfl; omega), fun h => by rw [h]; rfl⟩
theorem is46 (b : UInt8) : decide ((b.toNat : Int) = 46) = decide (b = 46) := by
  rw [decide_eq_decide]
  exact ⟨fun h => UInt8.toNat_inj.1 (by have : (46 : UInt8).toNat = 46 := rfl; omega), fun h => by rw [h]; rfl⟩
theorem rRight_loop (s : List UInt8) (hs : s.length < 1000000000) : ∀ (k i : Nat), s.length - i < k → ∀ h1 : 1 ≤ i, ∀ h2 : i ≤ s.length,
    f28_l4 k (.str s) (.int .i64 (i : Int)) = M.ret (.bool (passK 0 (s[i - 1]'(by omega)) (s.drop i))) := by
  intro k
  induction k with
  | zero => intro i h; omega
  | succ k ih =>
    intro i h h1 h2
    unfold f28_l4 f28_b4
    by_cases hlt : i < s.length
    · have c1 : ((i : Int) < (s.length : Int)) = True := eq_true (by omega)
      simp only [lnS_str, bd_ret, bi_lss, c1, decide_true, cnd_true]
      rw [ixs_nat s .i64 i hlt, bd_ret, ci_u8 _ (toNat_lt _), bd_ret]
      simp only [bi_eql, bd_ret, is47]
      have hd := List.drop_eq_getElem_cons hlt
      have nx := ih (i + 1) (by omega) (by omega) (by omega)
      rw [show ((i + 1 : Nat) : Int) = (i : Int) + 1 from rfl] at nx
      simp only [Nat.add_sub_cancel] at nx
      rw [hd, passK]
      by_cases hb : s[i] = 47
      · rw [if_pos hb]
        have cb : (s[i] = 47) = True := eq_true hb
        simp only [cb, decide_true, cnd_true]
        rw [bi_sub, wr_i64 _ (by omega) (by omega), bd_ret, ixs_int s .i64 _ (i - 1) (by omega) (by omega), bd_ret]
        simp only [bi_eql, bd_ret, is47, gd_bool]
        unfold endOK
        by_cases e1 : s[i - 1] = 47
        · have ce : (s[i - 1] = 47) = True := eq_true e1
          simp only [ce, decide_true, Bool.true_eq_false, if_false, bd_ret, gd_tuple, pk_bool, if_true, cnd_true, Bool.not_true, Bool.false_and]
        · have ce : (s[i - 1] = 47) = False := eq_false e1
          simp only [ce, decide_false, if_true, bd_ret, Bool.false_eq_true, if_false, pk_bool, Bool.not_false, Bool.true_and]
          rw [bi_sub, wr_i64 _ (by omega) (by omega), bd_ret, ixs_int s .i64 _ (i - 1) (by omega) (by omega), bd_ret]
          simp only [bi_eql, bd_ret, is46, pk_bool, Bool.false_eq_true, if_false]
          cases e2 : decide (s[i - 1] = 46) with
          | true => simp only [cnd_true, Bool.not_true, Bool.false_and]
          | false =>
            simp only [cnd_false, Bool.not_false, Bool.true_and]
            rw [bi_add, wr_i64 _ (by omega) (by omega), bd_ret, nx, hb]
      · rw [if_neg hb]
        have cb : (s[i] = 47) = False := eq_false hb
        simp only [cb, decide_false, cnd_false]
        rw [rTold_eq s hs i (by omega), bd_ret, hd]
        unfold toldI
        cases ht : toldB (s[i] :: s.drop (i + 1)) with
        | none =>
          simp only
          have c2 : ((0 : Int) ≤ -1) = False := eq_false (by omega)
          simp only [bi_geq, bd_ret, c2, decide_false, cnd_false]
          rw [rSign_eq _ (toNat_lt _), bd_ret]
          simp only [un_not, bd_ret]
          cases signC s[i].toNat with
          | false => simp only [Bool.not_false, cnd_true, Bool.false_and]
          | true =>
            simp only [Bool.not_true, cnd_false, Bool.true_and]
            rw [bi_add, wr_i64 _ (by omega) (by omega), bd_ret, nx]
        | some v =>
          simp only
          have hv := toldB_lt ht
          have c2 : ((0 : Int) ≤ (v : Int)) = True := eq_true (by omega)
          simp only [bi_geq, bd_ret, c2, decide_true, cnd_true]
          rw [rPlain_eq _ hv, bd_ret]
          obtain ⟨c, d, r2, hr, _⟩ := told37 ht
          have hl3 := congrArg List.length hr
          simp only [List.length_drop, List.length_cons] at hl3
          have nx3 := ih (i + 3) (by omega) (by omega) (by omega)
          have hr2 : s.drop (i + 3) = r2 := by
            rw [show i + 3 = (i + 1) + 2 by omega, ← List.drop_drop, hr]; rfl
          have hdd : s[i + 3 - 1]'(by omega) = d := by
            have := congrArg (·[1]?) hr
            simp only [List.getElem?_drop, List.getElem?_cons_succ, List.getElem?_cons_zero] at this
            rw [List.getElem?_eq_getElem (by omega)] at this
            exact Option.some.inj this
          rw [hr2, hdd] at nx3
          have pk2 : passK 2 s[i] (s.drop (i + 1)) = passK 0 d r2 := by rw [hr]; rfl
          rw [pk2]
          have v47 : decide ((v : Int) = 47) = decide (v = 47) := by rw [decide_eq_decide]; omega
          have v92 : decide ((v : Int) = 92) = decide (v = 92) := by rw [decide_eq_decide]; omega
          have v0 : decide ((v : Int) = 0) = decide (v = 0) := by rw [decide_eq_decide]; omega
          have fin : Ev (M.ret ()) .nil 0 (fun _ _ _ => True) → M.bd (bi .add (.int .i64 (i : Int)) (.int .i64 3)) (fun v28 => f28_l4 k (.str s) v28) = M.ret (.bool (passK 0 d r2)) := fun _ => by
            rw [bi_add, wr_i64 _ (by omega) (by omega), bd_ret]
            exact nx3
          have fin := fin ((Ev_ret _ _ _ _).2 trivial)
          unfold tellBad
          cases hp : plainC v with
          | true => simp only [gd_bool, Bool.true_eq_false, if_false, bd_ret, gd_tuple, pk_bool, if_true, cnd_true, Bool.true_or, Bool.not_true, Bool.false_and]
          | false =>
            simp only [gd_bool, if_true, bd_ret, bi_eql, v47, pk_bool, Bool.false_eq_true, if_false, Bool.false_or]
            cases h47 : decide (v = 47) with
            | true => simp only [gd_bool, Bool.true_eq_false, if_false, bd_ret, gd_tuple, pk_bool, if_true, cnd_true, Bool.true_or, Bool.not_true, Bool.false_and]
            | false =>
              simp only [gd_bool, if_true, bd_ret, bi_eql, v92, pk_bool, Bool.false_eq_true, if_false, Bool.false_or]
              cases h92 : decide (v = 92) with
              | true => simp only [gd_bool, Bool.true_eq_false, if_false, bd_ret, gd_tuple, pk_bool, if_true, cnd_true, Bool.true_or, Bool.not_true, Bool.false_and]
              | false =>
                simp only [gd_bool, if_true, bd_ret, bi_eql, v0, pk_bool, Bool.false_eq_true, if_false, Bool.false_or]
                cases h0 : decide (v = 0) with
                | true => simp only [cnd_true, Bool.not_true, Bool.false_and]
                | false =>
                  simp only [cnd_false, Bool.not_false, Bool.true_and]
                  exact fin
    · have c1 : ((i : Int) < (s.length : Int)) = False := eq_false (by omega)
      have hnil : s.drop i = [] := List.drop_eq_nil_of_le (by omega)
      simp only [lnS_str, bd_ret, bi_lss, c1, decide_false, cnd_false]
      unfold f28_2
      simp only [lnS_str, bd_ret]
      rw [hnil, bi_sub, wr_i64 _ (by omega) (by omega), bd_ret, ixs_int s .i64 _ (i - 1) (by omega) (by omega), bd_ret]
      have n47 : decide ((s[i - 1].toNat : Int) ≠ 47) = !decide (s[i - 1] = 47) := by rw [decide_not, is47]
      have n46 : decide ((s[i - 1].toNat : Int) ≠ 46) = !decide (s[i - 1] = 46) := by rw [decide_not, is46]
      simp only [bi_neq, bd_ret, n47]
      rw [show passK 0 (s[i - 1]'(by omega)) [] = endOK s[i - 1] from rfl]
      unfold endOK
      cases decide (s[i - 1] = 47) with
      | true => simp only [Bool.not_true, gd_bool, Bool.false_eq_true, if_false, bd_ret, gd_tuple, pk_bool, Bool.false_and]
      | false => simp only [Bool.not_false, gd_bool, if_true, bd_ret, bi_neq, n46, pk_bool, Bool.true_and]
theorem rRight_eq (s : List UInt8) : f28 (.str s) = M.ret (.bool (nameB s)) := by
  unfold f28 f28_0
  simp only [lnS_str, bd_ret, bi_lss]
  by_cases h2 : 2 ≤ s.length
  · have c1 : ((s.length : Int) < 2) = False := eq_false (by omega)
    simp only [c1, decide_false, gd_bool, if_true, bd_ret, lnS_str, bi_gtr, pk_bool, Bool.false_eq_true, if_false]
    by_cases h3 : s.length ≤ 255
    · have c2 : ((255 : Int) < (s.length : Int)) = False := eq_false (by omega)
      obtain ⟨b, r, rfl⟩ : ∃ b r, s = b :: r := by
        cases s with
        | nil => simp at h2
        | cons b r => exact ⟨b, r, rfl⟩
      have e0 : ixs (.str (b :: r)) (.int .i64 0) = M.ret (.int .u8 (b.toNat : Int)) := rfl
      have n47 : decide ((b.toNat : Int) ≠ 47) = !decide (b = 47) := by rw [decide_not, is47]
      simp only [c2, decide_false, if_true, bd_ret, e0, bi_neq, n47, pk_bool, Bool.false_eq_true, if_false]
      by_cases hb : b = 47
      · subst hb
        simp only [decide_true, Bool.not_true, cnd_false]
        unfold f28_1 f28_3
        have := rRight_loop (47 :: r) (by omega) fuel 1 (by rw [fuel_pos]; omega) (Nat.le_refl 1) (by omega)
        rw [show ((1 : Nat) : Int) = 1 from rfl] at this
        rw [this]
        show M.ret (AV.bool (passK 0 47 r)) = _
        unfold nameB
        rw [show (47 :: r).drop 1 = r from rfl, names_pass, decide_eq_true h2, decide_eq_true h3]; rfl
      · simp only [hb, decide_false, Bool.not_false, cnd_true]
        unfold nameB
        have : ([47] : List UInt8).isPrefixOf (b :: r) = false := by
          rw [List.isPrefixOf_cons_cons]
          have : ((47 : UInt8) == b) = false := by rw [Bool.eq_false_iff]; intro e; exact hb (by simpa using e : (47 : UInt8) = b).symm
          rw [this]; rfl
        rw [this]; rfl
    · have c2 : ((255 : Int) < (s.length : Int)) = True := eq_true (by omega)
      simp only [c2, decide_true, Bool.true_eq_false, if_false, bd_ret, gd_tuple, pk_bool, if_true, cnd_true]
      unfold nameB
      rw [decide_eq_false h3]; simp
  · have c1 : ((s.length : Int) < 2) = True := eq_true (by omega)
    simp only [c1, decide_true, gd_bool, Bool.true_eq_false, if_false, bd_ret, gd_tuple, pk_bool, if_true, cnd_true]
    unfold nameB
    rw [decide_eq_false h2]; simp
end Go.Proofs.YtgljgjnhagidnaaGreatDoor.Den
